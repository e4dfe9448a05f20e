/- Layer 9 in plain Lean: brackets and their partners; partners stand within one another. -/
import Derived.Test.YtelfobnmiphdnaaGreatDoorSemiP
import Derived.Test.YtelfobnmiphdnaaGreatDoorWrapP
namespace Go.Proofs.YtelfobnmiphdnaaGreatDoor
set_option linter.all false

/-- A token's byte, if it is a sign of one byte; else 0. -/
def bch (s : ByteArray) (t : Tok) : Nat := if t.1 = 8 ∧ t.2.2 = t.2.1 + 1 then bt s t.2.1 else 0
/-- The bracket that closes one, or 0. -/
def closer (c : Nat) : Nat := if c = 40 then 41 else if c = 91 then 93 else if c = 123 then 125 else 0
def isClose (c : Nat) : Bool := c == 41 || c == 93 || c == 125
/-- Through the tokens: those that are still to come, the number of the next one, what is open (the last one first), the partners, how many were open at most. -/
def nestGo (s : ByteArray) (toks : List Tok) : List Tok → Nat → List Nat → List Int → Nat → Except (Int × Int) (List Int × Nat)
  | [], _, [], p, m => .ok (p, m)
  | [], _, o :: _, _, _ => .error (5, ((toks.getD o (0, 0, 0)).2.1 : Nat))
  | t :: r, i, op, p, m =>
    if closer (bch s t) ≠ 0 then (if op.length = 100 then .error (6, (t.2.1 : Nat)) else nestGo s toks r (i + 1) (i :: op) (p.set i (-1)) (max m (op.length + 1)))
    else if isClose (bch s t) then match op with
      | [] => .error (5, (t.2.1 : Nat))
      | o :: op' => if closer (bch s (toks.getD o (0, 0, 0))) = bch s t then nestGo s toks r (i + 1) op' (((p.set i (-1)).set i (o : Int)).set o (i : Int)) m else .error (5, (t.2.1 : Nat))
    else nestGo s toks r (i + 1) op (p.set i (-1)) m
theorem nestGo_cons (s : ByteArray) (T : List Tok) (t : Tok) (r : List Tok) (i : Nat) (op : List Nat) (p : List Int) (m : Nat) : nestGo s T (t :: r) i op p m =
    if closer (bch s t) ≠ 0 then (if op.length = 100 then .error (6, (t.2.1 : Nat)) else nestGo s T r (i + 1) (i :: op) (p.set i (-1)) (max m (op.length + 1)))
    else if isClose (bch s t) then match op with
      | [] => .error (5, (t.2.1 : Nat))
      | o :: op' => if closer (bch s (T.getD o (0, 0, 0))) = bch s t then nestGo s T r (i + 1) op' (((p.set i (-1)).set i (o : Int)).set o (i : Int)) m else .error (5, (t.2.1 : Nat))
    else nestGo s T r (i + 1) op (p.set i (-1)) m := by rw [nestGo.eq_def]
theorem getD_set (p : List Int) (i j : Nat) (v : Int) (hi : i < p.length) : (p.set i v).getD j 0 = if j = i then v else p.getD j 0 := by
  rw [List.getD_eq_getElem?_getD, List.getD_eq_getElem?_getD, List.getElem?_set]
  by_cases h : i = j
  · subst h; rw [if_pos rfl, if_pos hi, if_pos rfl]; rfl
  · rw [if_neg h, if_neg (fun e => h e.symm)]
/-- What holds of the partners of the first i tokens. -/
structure NInv (n i : Nat) (op : List Nat) (p : List Int) : Prop where
  len : p.length = n
  le : i ≤ n
  open1 : ∀ o ∈ op, o < i ∧ p.getD o 0 = -1
  sorted : op.Pairwise (fun a b => b < a)
  pair : ∀ k, k < i → p.getD k 0 = -1 ∨ ∃ j : Nat, j < i ∧ p.getD k 0 = j ∧ p.getD j 0 = k ∧ j ≠ k
  nest : ∀ a b : Nat, a < b → b < i → p.getD a 0 = b → (∀ k, a < k → k < b → p.getD k 0 = -1 ∨ ∃ c : Nat, p.getD k 0 = c ∧ a < c ∧ c < b) ∧ ∀ o ∈ op, ¬ (a < o ∧ o < b)
theorem NInv.skip {n i : Nat} {op : List Nat} {p : List Int} (h : NInv n i op p) (hi : i < n) : NInv n (i + 1) op (p.set i (-1)) := by
  have hg : ∀ j, (p.set i (-1)).getD j 0 = if j = i then -1 else p.getD j 0 := fun j => getD_set p i j (-1) (by rw [h.len]; exact hi)
  refine ⟨by rw [List.length_set]; exact h.len, hi, fun o ho => ?_, h.sorted, fun k hk => ?_, fun a b hab hb hp => ?_⟩
  · have := h.open1 o ho
    rw [hg, if_neg (by omega)]; exact ⟨by omega, this.2⟩
  · rw [hg]
    by_cases e : k = i
    · rw [if_pos e]; exact Or.inl rfl
    · rw [if_neg e]
      rcases h.pair k (by omega) with g | ⟨j, g1, g2, g3, g4⟩
      · exact Or.inl g
      · refine Or.inr ⟨j, by omega, g2, ?_, g4⟩
        rw [hg, if_neg (by omega)]; exact g3
  · rw [hg] at hp
    by_cases e : a = i
    · omega
    · rw [if_neg e] at hp
      have hbi : b < i := by
        rcases h.pair a (by omega) with g | ⟨j, g1, g2, _⟩
        · omega
        · omega
      obtain ⟨g1, g2⟩ := h.nest a b hab hbi hp
      refine ⟨fun k k1 k2 => ?_, g2⟩
      rw [hg, if_neg (by omega)]
      exact g1 k k1 k2
theorem NInv.push {n i : Nat} {op : List Nat} {p : List Int} (h : NInv n i op p) (hi : i < n) : NInv n (i + 1) (i :: op) (p.set i (-1)) := by
  have hs := h.skip hi
  have hg : ∀ j, (p.set i (-1)).getD j 0 = if j = i then -1 else p.getD j 0 := fun j => getD_set p i j (-1) (by rw [h.len]; exact hi)
  refine ⟨hs.len, hs.le, fun o ho => ?_, ?_, hs.pair, fun a b hab hb hp => ?_⟩
  · rcases List.mem_cons.1 ho with rfl | ho
    · exact ⟨by omega, by rw [hg, if_pos rfl]⟩
    · exact hs.open1 o ho
  · exact List.pairwise_cons.2 ⟨fun o ho => (h.open1 o ho).1, h.sorted⟩
  · obtain ⟨g1, g2⟩ := hs.nest a b hab hb hp
    refine ⟨g1, fun o ho => ?_⟩
    rcases List.mem_cons.1 ho with rfl | ho
    · omega
    · exact g2 o ho
theorem NInv.pop {n i o : Nat} {op : List Nat} {p : List Int} (h : NInv n i (o :: op) p) (hi : i < n) : NInv n (i + 1) op (((p.set i (-1)).set i (o : Int)).set o (i : Int)) := by
  obtain ⟨ho1, ho2⟩ := h.open1 o List.mem_cons_self
  have hpw := List.pairwise_cons.1 h.sorted
  have hg : ∀ j, (((p.set i (-1)).set i (o : Int)).set o (i : Int)).getD j 0 = if j = o then (i : Int) else if j = i then (o : Int) else p.getD j 0 := fun j => by
    rw [getD_set _ o j _ (by rw [List.length_set, List.length_set, h.len]; omega), getD_set _ i j _ (by rw [List.length_set, h.len]; exact hi), getD_set _ i j _ (by rw [h.len]; exact hi)]
    by_cases e : j = o
    · rw [if_pos e, if_pos e]
    · rw [if_neg e, if_neg e]
      by_cases e2 : j = i
      · rw [if_pos e2, if_pos e2]
      · rw [if_neg e2, if_neg e2, if_neg e2]
  -- nobody's partner is o
  have hno : ∀ k : Nat, k < i → p.getD k 0 ≠ (o : Int) := fun k hk e => by
    rcases h.pair k hk with g | ⟨j, g1, g2, g3, g4⟩
    · omega
    · have : j = o := by omega
      subst this; omega
  refine ⟨by rw [List.length_set, List.length_set, List.length_set]; exact h.len, hi, fun x hx => ?_, hpw.2, fun k hk => ?_, fun a b hab hb hp => ?_⟩
  · obtain ⟨x1, x2⟩ := h.open1 x (List.mem_cons_of_mem _ hx)
    have := hpw.1 x hx
    rw [hg, if_neg (by omega), if_neg (by omega)]
    exact ⟨by omega, x2⟩
  · by_cases e : k = o
    · refine Or.inr ⟨i, by omega, by rw [hg, if_pos e], ?_, by omega⟩
      rw [hg, if_neg (by omega), if_pos rfl, e]
    · by_cases e2 : k = i
      · refine Or.inr ⟨o, by omega, by rw [hg, if_neg e, if_pos e2], ?_, by omega⟩
        rw [hg, if_pos rfl, e2]
      · rcases h.pair k (by omega) with g | ⟨j, g1, g2, g3, g4⟩
        · left; rw [hg, if_neg e, if_neg e2]; exact g
        · refine Or.inr ⟨j, by omega, by rw [hg, if_neg e, if_neg e2]; exact g2, ?_, g4⟩
          have hjo : j ≠ o := fun q => by subst q; omega
          rw [hg, if_neg hjo, if_neg (by omega)]; exact g3
  · rw [hg] at hp
    by_cases e : a = o
    · rw [if_pos e] at hp
      have hbi : b = i := by omega
      subst e; subst hbi
      refine ⟨fun k k1 k2 => ?_, fun x hx => ?_⟩
      · rw [hg, if_neg (by omega), if_neg (by omega)]
        rcases h.pair k (by omega) with g | ⟨j, g1, g2, g3, g4⟩
        · exact Or.inl g
        · refine Or.inr ⟨j, g2, ?_, g1⟩
          rcases Nat.lt_or_ge a j with q | q
          · exact q
          · exfalso
            rcases Nat.lt_or_ge j a with q2 | q2
            · have := (h.nest j k (by omega) (by omega) g3).2 a List.mem_cons_self
              exact this ⟨q2, k1⟩
            · have : j = a := by omega
              subst this; omega
      · have := hpw.1 x hx; omega
    · rw [if_neg e] at hp
      by_cases e2 : a = i
      · rw [if_pos e2] at hp; omega
      · rw [if_neg e2] at hp
        have hbi : b < i := by
          rcases h.pair a (by omega) with g | ⟨j, g1, g2, _⟩
          · omega
          · omega
        obtain ⟨g1, g2⟩ := h.nest a b hab hbi hp
        refine ⟨fun k k1 k2 => ?_, fun x hx => g2 x (List.mem_cons_of_mem _ hx)⟩
        have hko : k ≠ o := fun q => by subst q; exact g2 k List.mem_cons_self ⟨k1, k2⟩
        rw [hg, if_neg hko, if_neg (by omega)]
        exact g1 k k1 k2
theorem nestGo_inv (s : ByteArray) (toks : List Tok) : ∀ (r : List Tok) (i : Nat) (op : List Nat) (p : List Int) (m : Nat) (q : List Int × Nat), i + r.length = toks.length → NInv toks.length i op p → nestGo s toks r i op p m = .ok q → NInv toks.length toks.length [] q.1
  | [], i, [], p, m, q, hl, h, he => by
    simp only [nestGo] at he
    cases he
    have : i = toks.length := by simpa using hl
    subst this; exact h
  | [], i, o :: _, p, m, q, hl, h, he => by simp only [nestGo] at he; cases he
  | t :: r, i, op, p, m, q, hl, h, he => by
    have hi : i < toks.length := by simp only [List.length_cons] at hl; omega
    have hl' : i + 1 + r.length = toks.length := by simp only [List.length_cons] at hl; omega
    unfold nestGo at he
    split at he
    · split at he
      · cases he
      · exact nestGo_inv s toks r _ _ _ _ q hl' (h.push hi) he
    · split at he
      · split at he
        · cases he
        · split at he
          · exact nestGo_inv s toks r _ _ _ _ q hl' (h.pop hi) he
          · cases he
      · exact nestGo_inv s toks r _ _ _ _ q hl' (h.skip hi) he
theorem NInv.start (n : Nat) : NInv n 0 [] (List.replicate n 0) :=
  ⟨List.length_replicate, Nat.zero_le _, (fun o ho => by cases ho), List.Pairwise.nil, (fun k hk => by omega), (fun a b hab hb => by omega)⟩
end Go.Proofs.YtelfobnmiphdnaaGreatDoor
namespace Go.Proofs.YtelfobnmiphdnaaGreatDoor
set_option linter.all false

/-- As nestGo, of the brackets alone. -/
def nestB (bs : List Nat) : List Nat → Nat → List Nat → List Int → Nat → Except Int (List Int × Nat)
  | [], _, [], p, m => .ok (p, m)
  | [], _, _ :: _, _, _ => .error 5
  | c :: r, i, op, p, m =>
    if closer c ≠ 0 then (if op.length = 100 then .error 6 else nestB bs r (i + 1) (i :: op) (p.set i (-1)) (max m (op.length + 1)))
    else if isClose c then match op with
      | [] => .error 5
      | o :: op' => if closer (bs.getD o 0) = c then nestB bs r (i + 1) op' (((p.set i (-1)).set i (o : Int)).set o (i : Int)) m else .error 5
    else nestB bs r (i + 1) op (p.set i (-1)) m
theorem bch_none (s : ByteArray) : bch s (0, 0, 0) = 0 := rfl
theorem bch_getD (s : ByteArray) (toks : List Tok) (o : Nat) : (toks.map (bch s)).getD o 0 = bch s (toks.getD o (0, 0, 0)) := by
  rw [List.getD_eq_getElem?_getD, List.getD_eq_getElem?_getD, List.getElem?_map]
  cases toks[o]? <;> rfl
theorem nestGo_B (s : ByteArray) (toks : List Tok) : ∀ (r : List Tok) (i : Nat) (op : List Nat) (p : List Int) (m : Nat), nestB (toks.map (bch s)) (r.map (bch s)) i op p m = (nestGo s toks r i op p m).mapError Prod.fst
  | [], i, [], p, m => by simp [nestGo, nestB, Except.mapError]
  | [], i, o :: _, p, m => by simp [nestGo, nestB, Except.mapError]
  | t :: r, i, op, p, m => by
    rw [List.map_cons]
    unfold nestGo nestB
    by_cases h1 : closer (bch s t) ≠ 0
    · rw [if_pos h1, if_pos h1]
      by_cases h2 : op.length = 100
      · rw [if_pos h2, if_pos h2]; rfl
      · rw [if_neg h2, if_neg h2]; exact nestGo_B s toks r _ _ _ _
    · rw [if_neg h1, if_neg h1]
      by_cases h2 : isClose (bch s t) = true
      · rw [if_pos h2, if_pos h2]
        cases op with
        | nil => rfl
        | cons o op' =>
          simp only []
          rw [bch_getD]
          by_cases h3 : closer (bch s (toks.getD o (0, 0, 0))) = bch s t
          · rw [if_pos h3, if_pos h3]; exact nestGo_B s toks r _ _ _ _
          · rw [if_neg h3, if_neg h3]; rfl
      · rw [if_neg h2, if_neg h2]; exact nestGo_B s toks r _ _ _ _
theorem nestB_mono (bs : List Nat) : ∀ (r : List Nat) (i : Nat) (op : List Nat) (p : List Int) (m : Nat) (q : List Int × Nat), nestB bs r i op p m = .ok q → op.length ≤ 100 → m ≤ q.2 ∧ (m ≤ 100 → q.2 ≤ 100)
  | [], i, [], p, m, q, h, _ => by simp only [nestB, Except.ok.injEq] at h; subst h; exact ⟨Nat.le_refl _, id⟩
  | [], i, o :: _, p, m, q, h, _ => by simp [nestB] at h
  | c :: r, i, op, p, m, q, h, hl => by
    unfold nestB at h
    split at h
    · split at h
      · cases h
      · rename_i h2
        have := nestB_mono bs r _ _ _ _ q h (by simp only [List.length_cons]; omega)
        omega
    · split at h
      · split at h
        · cases h
        · split at h
          · simp only [List.length_cons] at hl
            exact nestB_mono bs r _ _ _ _ q h (by omega)
          · cases h
      · exact nestB_mono bs r _ _ _ _ q h hl
/-- The partners in the text in brackets, so far. -/
def wrel (n i : Nat) (p pu : List Int) : Prop := p.length = n ∧ pu.length = n + 3 ∧ pu.getD 0 0 = -1 ∧ ∀ k, k < i → pu.getD (k + 1) 0 = if p.getD k 0 = -1 then -1 else p.getD k 0 + 1
theorem wrel.skip {n i : Nat} {p pu : List Int} (h : wrel n i p pu) (hi : i < n) : wrel n (i + 1) (p.set i (-1)) (pu.set (i + 1) (-1)) := by
  obtain ⟨h1, h2, h3, h4⟩ := h
  refine ⟨by rw [List.length_set]; exact h1, by rw [List.length_set]; exact h2, ?_, fun k hk => ?_⟩
  · rw [getD_set _ _ _ _ (by omega), if_neg (by omega)]; exact h3
  · rw [getD_set _ _ _ _ (by omega), getD_set _ _ _ _ (by omega)]
    by_cases e : k = i
    · subst e; rw [if_pos rfl, if_pos rfl, if_pos rfl]
    · rw [if_neg (by omega), if_neg e]; exact h4 k (by omega)
theorem wrel.pop {n i o : Nat} {p pu : List Int} (h : wrel n i p pu) (hi : i < n) (ho : o < i) : wrel n (i + 1) (((p.set i (-1)).set i (o : Int)).set o (i : Int)) (((pu.set (i + 1) (-1)).set (i + 1) ((o + 1 : Nat) : Int)).set (o + 1) ((i + 1 : Nat) : Int)) := by
  obtain ⟨h1, h2, h3, h4⟩ := h
  refine ⟨by rw [List.length_set, List.length_set, List.length_set]; exact h1, by rw [List.length_set, List.length_set, List.length_set]; exact h2, ?_, fun k hk => ?_⟩
  · rw [getD_set _ _ _ _ (by rw [List.length_set, List.length_set]; omega), if_neg (by omega), getD_set _ _ _ _ (by rw [List.length_set]; omega), if_neg (by omega), getD_set _ _ _ _ (by omega), if_neg (by omega)]; exact h3
  · rw [getD_set _ _ _ _ (by rw [List.length_set, List.length_set]; omega), getD_set _ _ _ _ (by rw [List.length_set]; omega), getD_set _ _ _ _ (by omega),
      getD_set _ _ _ _ (by rw [List.length_set, List.length_set]; omega), getD_set _ _ _ _ (by rw [List.length_set]; omega), getD_set _ _ _ _ (by omega)]
    by_cases e : k = o
    · subst e; rw [if_pos rfl, if_pos rfl, if_neg (by omega)]; omega
    · by_cases e2 : k = i
      · subst e2; rw [if_neg (by omega), if_pos rfl, if_neg e, if_pos rfl, if_neg (by omega)]; omega
      · rw [if_neg (by omega), if_neg (by omega), if_neg (by omega), if_neg e, if_neg e2, if_neg e2]; exact h4 k (by omega)
theorem wrap_getD (bs : List Nat) (o : Nat) (ho : o < bs.length) : (40 :: (bs ++ [41, 0])).getD (o + 1) 0 = bs.getD o 0 := by
  rw [List.getD_eq_getElem?_getD, List.getD_eq_getElem?_getD, List.getElem?_cons_succ, List.getElem?_append_left ho]
theorem wrap_sim (bs : List Nat) : ∀ (r : List Nat) (i : Nat) (op : List Nat) (p : List Int) (m : Nat) (q : List Int × Nat) (pu : List Int), i + r.length = bs.length → (∀ o ∈ op, o < i) → op.length ≤ 99 → m ≤ 99 → wrel bs.length i p pu → nestB bs r i op p m = .ok q →
    (q.2 = 100 → nestB (40 :: (bs ++ [41, 0])) (r ++ [41, 0]) (i + 1) (op.map (· + 1) ++ [0]) pu (m + 1) = .error 6) ∧
    (q.2 ≠ 100 → ∃ qu, nestB (40 :: (bs ++ [41, 0])) (r ++ [41, 0]) (i + 1) (op.map (· + 1) ++ [0]) pu (m + 1) = .ok (qu, q.2 + 1) ∧ qu.length = bs.length + 3 ∧ qu.getD 0 0 = ((bs.length + 1 : Nat) : Int) ∧
      ∀ k, k < bs.length → qu.getD (k + 1) 0 = if q.1.getD k 0 = -1 then -1 else q.1.getD k 0 + 1)
  | [], i, [], p, m, q, pu, hl, ho, h99, hm, hw, h => by
    simp only [nestB, Except.ok.injEq] at h
    subst h
    have hi : i = bs.length := by simpa using hl
    subst hi
    obtain ⟨w1, w2, w3, w4⟩ := hw
    refine ⟨fun e => by simp only [] at e; omega, fun _ => ?_⟩
    have e1 : nestB (40 :: (bs ++ [41, 0])) [41, 0] (bs.length + 1) [0] pu (m + 1) = .ok ((((pu.set (bs.length + 1) (-1)).set (bs.length + 1) ((0 : Nat) : Int)).set 0 ((bs.length + 1 : Nat) : Int)).set (bs.length + 1 + 1) (-1), m + 1) := by
      rw [nestB, if_neg (by decide), if_pos (by rfl), if_pos (by rfl), nestB, if_neg (by decide), if_neg (by decide), nestB]
    refine ⟨_, e1, by simp only [List.length_set]; exact w2, ?_, fun k hk => ?_⟩
    · rw [getD_set _ _ _ _ (by simp only [List.length_set]; omega), if_neg (by omega), getD_set _ _ _ _ (by simp only [List.length_set]; omega), if_pos rfl]
    · rw [getD_set _ _ _ _ (by simp only [List.length_set]; omega), if_neg (by omega), getD_set _ _ _ _ (by simp only [List.length_set]; omega), if_neg (by omega), getD_set _ _ _ _ (by simp only [List.length_set]; omega), if_neg (by omega), getD_set _ _ _ _ (by omega), if_neg (by omega)]
      exact w4 k hk
  | [], i, o :: _, p, m, q, pu, hl, ho, h99, hm, hw, h => by simp [nestB] at h
  | c :: r, i, op, p, m, q, pu, hl, ho, h99, hm, hw, h => by
    have hi : i < bs.length := by simp only [List.length_cons] at hl; omega
    have hl' : i + 1 + r.length = bs.length := by simp only [List.length_cons] at hl; omega
    have hlen : (op.map (· + 1) ++ [0]).length = op.length + 1 := by simp
    unfold nestB at h
    rw [List.cons_append]
    unfold nestB
    rw [hlen]
    by_cases h1 : closer c ≠ 0
    · rw [if_pos h1, if_neg (by omega)] at h
      rw [if_pos h1]
      by_cases h2 : op.length = 99
      · have := nestB_mono bs r _ _ _ _ q h (by simp only [List.length_cons]; omega)
        refine ⟨fun _ => by rw [if_pos (by omega)], fun e => ?_⟩
        exfalso; omega
      · rw [if_neg (by omega)]
        have ih := wrap_sim bs r (i + 1) (i :: op) (p.set i (-1)) (max m (op.length + 1)) q (pu.set (i + 1) (-1)) hl' (fun o hm => by rcases List.mem_cons.1 hm with rfl | hm; omega; have := ho o hm; omega) (by simp only [List.length_cons]; omega) (by omega) (hw.skip hi) h
        rw [show max m (op.length + 1) + 1 = max (m + 1) (op.length + 1 + 1) by omega] at ih
        exact ih
    · rw [if_neg h1] at h ⊢
      by_cases h2 : isClose c = true
      · rw [if_pos h2] at h ⊢
        cases op with
        | nil => cases h
        | cons o op' =>
          simp only [] at h
          have ho1 := ho o List.mem_cons_self
          show _ ∧ _
          simp only [List.map_cons, List.cons_append]
          rw [wrap_getD bs o (by omega)]
          by_cases h3 : closer (bs.getD o 0) = c
          · rw [if_pos h3] at h ⊢
            simp only [List.length_cons] at h99
            exact wrap_sim bs r (i + 1) op' _ m q _ hl' (fun x hx => by have := ho x (List.mem_cons_of_mem _ hx); omega) (by omega) hm (hw.pop hi ho1) h
          · rw [if_neg h3] at h; cases h
      · rw [if_neg h2] at h ⊢
        exact wrap_sim bs r (i + 1) op _ m q _ hl' (fun x hx => by have := ho x hx; omega) h99 hm (hw.skip hi) h
end Go.Proofs.YtelfobnmiphdnaaGreatDoor
namespace Go.Proofs.YtelfobnmiphdnaaGreatDoor
set_option linter.all false

/-- A token's byte by its kind and text, if it is a sign of one byte; else 0. -/
def bx (q : Int × ByteArray) : Nat := if q.1 = 8 ∧ q.2.size = 1 then bt q.2 0 else 0
theorem bch_tx {s : ByteArray} {t : Tok} (h1 : t.2.1 ≤ t.2.2) (h2 : t.2.2 ≤ s.size) : bch s t = bx (tx s t) := by
  unfold bch bx tx txt
  simp only []
  by_cases h8 : t.1 = 8
  · have h9 : ¬ t.1 = 9 := by omega
    rw [if_neg h9, piece_size h1 h2]
    by_cases hl : t.2.2 = t.2.1 + 1
    · rw [if_pos ⟨h8, hl⟩, if_pos ⟨h8, by omega⟩, piece_bt (j := 0) (by omega) h2, Nat.add_zero]
    · rw [if_neg (fun g => hl g.2), if_neg (fun g => by omega)]
  · rw [if_neg (fun g => h8 g.1), if_neg (fun g => h8 g.1)]
theorem ord_each {sz : Nat} : ∀ {l : List Tok} {a : Nat}, inOrd sz a l → ∀ t ∈ l, t.2.1 ≤ t.2.2 ∧ t.2.2 ≤ sz
  | [], _, _ => by intro t ht; cases ht
  | x :: r, a, h => by
    intro t ht
    obtain ⟨h1, h2, h3, h4⟩ := h
    rcases List.mem_cons.1 ht with rfl | ht
    · exact ⟨h2, h3⟩
    · exact ord_each h4 t ht
theorem semi_bx (s : ByteArray) : (semiAll s).1.map (bch s) = ((semiAll s).1.map (tx s)).map bx := by
  rw [List.map_map]
  refine List.map_congr_left fun t ht => ?_
  obtain ⟨h1, h2⟩ := ord_each (semiAll_ord s) t ht
  exact bch_tx h1 h2
theorem bx_op : bx (8, opS) = 40 := by rfl
theorem bx_cl : bx (8, clS) = 41 := by rfl
theorem bx_semi : bx (9, semS) = 0 := by rfl
theorem wrap_bs (s u : ByteArray) (hu : u = opS ++ (s ++ endS)) (hbom : (rd s 0).1 ≠ 65279) (hsz : s.size ≤ 65533) (h : (scanAll s).2.1 = 0) :
    (semiAll u).1.map (bch u) = 40 :: ((semiAll s).1.map (bch s) ++ [41, 0]) := by
  rw [semi_bx u, (wrap_all s u hu hbom hsz h).2, semi_bx s, List.map_cons, List.map_append, bx_op]
  simp only [List.map_cons, List.map_nil, bx_cl, bx_semi]
theorem wrap_len (s u : ByteArray) (hu : u = opS ++ (s ++ endS)) (hbom : (rd s 0).1 ≠ 65279) (hsz : s.size ≤ 65533) (h : (scanAll s).2.1 = 0) :
    (semiAll u).1.length = (semiAll s).1.length + 3 := by
  have := congrArg List.length (wrap_bs s u hu hbom hsz h)
  simp only [List.length_map, List.length_cons, List.length_append, List.length_nil] at this
  omega
theorem wrap_kind (s u : ByteArray) (hu : u = opS ++ (s ++ endS)) (hbom : (rd s 0).1 ≠ 65279) (hsz : s.size ≤ 65533) (h : (scanAll s).2.1 = 0) (i : Nat) (hi : i < (semiAll s).1.length) (hj : i + 1 < (semiAll u).1.length) :
    ((semiAll u).1[i + 1]).1 = ((semiAll s).1[i]).1 := by
  have h1 := (wrap_all s u hu hbom hsz h).2
  have h2 := congrArg (fun l => l[i + 1]?) h1
  simp only [List.getElem?_cons_succ] at h2
  rw [List.getElem?_append_left (by rw [List.length_map]; exact hi), List.getElem?_map, List.getElem?_map, List.getElem?_eq_getElem hj, List.getElem?_eq_getElem hi] at h2
  simp only [Option.map_some, Option.some.injEq] at h2
  show (tx u _).1 = (tx s _).1
  rw [h2]
/-- The document's nest of a text: tokens, partners, depth; or a fault. -/
@[irreducible] def nestAll (s : ByteArray) : List Tok × List Int × Int × Int × Int :=
  if (semiAll s).2.1 = 0 ∧ (semiAll s).2.2 = 0 then
    match nestGo s (semiAll s).1 (semiAll s).1 0 [] (List.replicate (semiAll s).1.length 0) 0 with
    | .ok (p, m) => ((semiAll s).1, p, (m : Int), 0, 0)
    | .error (e, a) => ([], [], 0, e, a)
  else ([], [], 0, (semiAll s).2.1, (semiAll s).2.2)
end Go.Proofs.YtelfobnmiphdnaaGreatDoor
namespace Go.Proofs.YtelfobnmiphdnaaGreatDoor
set_option linter.all false

theorem mapErr_ok {q : List Int × Nat} : ∀ {x : Except (Int × Int) (List Int × Nat)}, x.mapError Prod.fst = .ok q → x = .ok q
  | .ok a, h => by simpa [Except.mapError] using h
  | .error a, h => by simp [Except.mapError] at h
theorem mapErr_err {e : Int} : ∀ {x : Except (Int × Int) (List Int × Nat)}, x.mapError Prod.fst = .error e → ∃ a, x = .error (e, a)
  | .ok a, h => by simp [Except.mapError] at h
  | .error (e', a), h => ⟨a, by
    simp only [Except.mapError, Except.error.injEq] at h
    rw [h]⟩
theorem wrap_nest (s u : ByteArray) (hu : u = opS ++ (s ++ endS)) (hbom : (rd s 0).1 ≠ 65279) (hsz : s.size ≤ 65533) (h : (scanAll s).2.1 = 0) (p : List Int) (m : Nat)
    (hn : nestGo s (semiAll s).1 (semiAll s).1 0 [] (List.replicate (semiAll s).1.length 0) 0 = .ok (p, m)) :
    (m = 100 → ∃ a, nestGo u (semiAll u).1 (semiAll u).1 0 [] (List.replicate (semiAll u).1.length 0) 0 = .error (6, a)) ∧
    (m ≠ 100 → ∃ pu, nestGo u (semiAll u).1 (semiAll u).1 0 [] (List.replicate (semiAll u).1.length 0) 0 = .ok (pu, m + 1) ∧ pu.length = (semiAll s).1.length + 3 ∧ pu.getD 0 0 = (((semiAll s).1.length + 1 : Nat) : Int) ∧
      ∀ k, k < (semiAll s).1.length → pu.getD (k + 1) 0 = if p.getD k 0 = -1 then -1 else p.getD k 0 + 1) := by
  have hlen := wrap_len s u hu hbom hsz h
  have hbs := wrap_bs s u hu hbom hsz h
  have hB := nestGo_B s (semiAll s).1 (semiAll s).1 0 [] (List.replicate (semiAll s).1.length 0) 0
  have hU := nestGo_B u (semiAll u).1 (semiAll u).1 0 [] (List.replicate (semiAll u).1.length 0) 0
  rw [hn] at hB
  rw [hbs, hlen] at hU
  have hl : ((semiAll s).1.map (bch s)).length = (semiAll s).1.length := List.length_map _
  generalize (semiAll s).1.map (bch s) = bs at *
  generalize (semiAll s).1.length = n at *
  subst hl
  rw [hlen]
  generalize nestGo u (semiAll u).1 (semiAll u).1 0 [] (List.replicate (bs.length + 3) 0) 0 = X at *
  have hstep : nestB (40 :: (bs ++ [41, 0])) (40 :: (bs ++ [41, 0])) 0 [] (List.replicate (bs.length + 3) 0) 0 = nestB (40 :: (bs ++ [41, 0])) (bs ++ [41, 0]) (0 + 1) (([] : List Nat).map (· + 1) ++ [0]) ((List.replicate (bs.length + 3) 0).set 0 (-1)) (0 + 1) := by
    rw [nestB, if_pos (by decide), if_neg (by decide)]; rfl
  rw [hstep] at hU
  have hw : wrel bs.length 0 (List.replicate bs.length 0) ((List.replicate (bs.length + 3) 0).set 0 (-1)) := by
    refine ⟨List.length_replicate, by rw [List.length_set, List.length_replicate], ?_, fun k hk => by omega⟩
    rw [getD_set _ _ _ _ (by rw [List.length_replicate]; omega), if_pos rfl]
  obtain ⟨g1, g2⟩ := wrap_sim bs bs 0 [] (List.replicate bs.length 0) 0 (p, m) _ (by omega) (by intro o ho; cases ho) (by simp) (by omega) hw hB
  refine ⟨fun e => ?_, fun e => ?_⟩
  · rw [g1 e] at hU
    exact mapErr_err hU.symm
  · obtain ⟨qu, q1, q2, q3, q4⟩ := g2 e
    rw [q1] at hU
    exact ⟨qu, mapErr_ok hU.symm, q2, q3, q4⟩
/-- A partner's partner is the bracket, and what stands between two partners has its partners there. -/
theorem nest_within (s : ByteArray) (toks : List Tok) (p : List Int) (m : Nat) (h : nestGo s toks toks 0 [] (List.replicate toks.length 0) 0 = .ok (p, m)) :
    p.length = toks.length ∧ ∀ i, i < toks.length → p.getD i 0 = -1 ∨ ∃ j : Nat, j < toks.length ∧ p.getD i 0 = j ∧ p.getD j 0 = i ∧ j ≠ i ∧ ∀ k, i < k → k < j → p.getD k 0 = -1 ∨ ∃ c : Nat, p.getD k 0 = c ∧ i < c ∧ c < j := by
  have hi := nestGo_inv s toks toks 0 [] _ 0 (p, m) (by omega) (NInv.start _) h
  refine ⟨hi.len, fun i hlt => ?_⟩
  rcases hi.pair i hlt with g | ⟨j, g1, g2, g3, g4⟩
  · exact Or.inl g
  · refine Or.inr ⟨j, g1, g2, g3, g4, fun k k1 k2 => ?_⟩
    exact (hi.nest i j (by omega) g1 g2).1 k k1 k2
end Go.Proofs.YtelfobnmiphdnaaGreatDoor
