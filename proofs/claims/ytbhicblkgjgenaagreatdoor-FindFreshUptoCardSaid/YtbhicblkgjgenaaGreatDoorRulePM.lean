/- Layers 16 and 17 in plain Lean: which rules may be; whether a rule fits a part. -/
import Derived.Test.YtbhicblkgjgenaaGreatDoorMatchP2M
import Derived.Test.YtbhicblkgjgenaaGreatDoorCheckBM
namespace Go.Proofs.YtbhicblkgjgenaaGreatDoor
set_option linter.all false

/-- Is a hole of a rule fine? -/
def holeB (r : RuleM) (i : Nat) : Bool := match r.holes[i]? with
  | none => true
  | some h => !(r.holes.take i).any (fun g => decide (g.1 = h.1)) && (name h.1 && (decide (1 ≤ h.2 ∧ h.2 ≤ 7) && (decide (1 ≤ placesZ r.fnd h) && decide (0 ≤ placesZ r.by' h))))
def sevN (hs : List Hl) : Nat := (hs.filter fun h => isSev h.2).length
def ruleTop (r : RuleM) : Bool := name r.nm && (decide (1 ≤ r.goal ∧ r.goal ≤ 3) && (checkB r.fnd && (checkB r.by' && !(decide (r.goal = 3) && decide (kindAt r.by' 0 ≠ 13)))))
/-- May a rule be? The error, or 0. -/
def ruleZ (r : RuleM) : Int :=
  if ruleTop r = false then 10
  else if 16 < r.holes.length ∨ 2 < sevN r.holes then 14
  else if ∀ i, i < r.holes.length → holeB r i = true then 0 else 11
theorem checkB_inv {l : List Prt} (h : checkB l = true) : wellB l = true ∧ ∀ p (hp : p < l.length), partB l[p] = true := by
  unfold checkB at h
  simp only [Bool.and_eq_true, List.all_eq_true] at h
  exact ⟨h.1, fun p hp => h.2 _ (List.getElem_mem hp)⟩
theorem partB_leaf {p : Prt} (h : partB p = true) (hk : p.1 = 26) : p.2.1 = 0 := by
  unfold partB at h
  simp only [Bool.and_eq_true, Bool.or_eq_true, decide_eq_true_eq] at h
  rw [hk] at h
  have e : arL 26 = (0, false) := rfl
  rw [e] at h
  rcases h.2.2.1 with h1 | h1
  · simpa using h1
  · cases h1
theorem partB_stmt {p : Prt} (h : partB p = true) (hk : p.1 = 50) : p.2.1 = 1 := by
  unfold partB at h
  simp only [Bool.and_eq_true, Bool.or_eq_true, decide_eq_true_eq] at h
  rw [hk] at h
  have e : arL 50 = (1, false) := rfl
  rw [e] at h
  rcases h.2.2.1 with h1 | h1
  · simpa using h1
  · cases h1
theorem placesZ_ok {l : List Prt} {h : Hl} (h0 : 0 ≤ placesZ l h) : ∀ p (hp : p < l.length), isPlace l[p] h = true → placeOK l h.2 p = true :=
  fun p hp => placesF_ok l h l.length 0 0 (Int.le_refl _) (by omega) h0 p hp (by omega)
theorem ruleZ_inv {r : RuleM} (h : ruleZ r = 0) : name r.nm = true ∧ (1 ≤ r.goal ∧ r.goal ≤ 3) ∧ checkB r.fnd = true ∧ checkB r.by' = true ∧ (r.goal = 3 → kindAt r.by' 0 = 13) ∧ r.holes.length ≤ 16 ∧ sevN r.holes ≤ 2 ∧ ∀ i, i < r.holes.length → holeB r i = true := by
  unfold ruleZ at h
  split at h
  · cases h
  · rename_i h1
    split at h
    · cases h
    · rename_i h2
      split at h
      · rename_i h3
        have h1 : ruleTop r = true := by simpa using h1
        unfold ruleTop at h1
        simp only [Bool.and_eq_true, Bool.not_eq_true', decide_eq_true_eq, Bool.and_eq_false_iff, decide_eq_false_iff_not] at h1
        obtain ⟨a1, a2, a3, a4, a5⟩ := h1
        refine ⟨a1, a2, a3, a4, fun e => ?_, by omega, by omega, h3⟩
        rcases a5 with a5 | a5
        · exact absurd e a5
        · exact Decidable.not_not.1 a5
      · cases h
theorem holeB_inv {r : RuleM} {i : Nat} (hi : i < r.holes.length) (h : holeB r i = true) : (∀ k (hk : k < i), (r.holes[k]).1 ≠ (r.holes[i]).1) ∧ name (r.holes[i]).1 = true ∧ (1 ≤ (r.holes[i]).2 ∧ (r.holes[i]).2 ≤ 7) ∧ 1 ≤ placesZ r.fnd r.holes[i] ∧ 0 ≤ placesZ r.by' r.holes[i] := by
  unfold holeB at h
  rw [List.getElem?_eq_getElem hi] at h
  simp only [Bool.and_eq_true, decide_eq_true_eq, Bool.not_eq_true'] at h
  refine ⟨fun k hk e => ?_, h.2⟩
  have h1 := h.1
  rw [List.any_eq_false] at h1
  have h2 : k < (r.holes.take i).length := by rw [List.length_take]; omega
  have := h1 ((r.holes.take i)[k]) (List.getElem_mem h2)
  rw [List.getElem_take] at this
  simp [e] at this
theorem rule_holes {r : RuleM} (h : ruleZ r = 0) : HolesOK r.fnd r.holes ∧ HolesOK r.by' r.holes ∧ ∀ i (hi : i < r.holes.length), ∃ p, p < r.fnd.length ∧ holeOf r.fnd r.holes p = some i := by
  obtain ⟨a1, a2, a3, a4, a5, a6, a7, a8⟩ := ruleZ_inv h
  have hu : ∀ (a b : Nat) (ha : a < r.holes.length) (hb : b < r.holes.length), (r.holes[a]).1 = (r.holes[b]).1 → a = b := by
    intro a b ha hb e
    rcases Nat.lt_trichotomy a b with c | c | c
    · exact absurd e ((holeB_inv hb (a8 b hb)).1 a c)
    · exact c
    · exact absurd e.symm ((holeB_inv ha (a8 a ha)).1 b c)
  have f3 := checkB_inv a3
  have f4 := checkB_inv a4
  have H1 : HolesOK r.fnd r.holes := ⟨f3.1, hu, fun p hp => partB_leaf (f3.2 p hp), fun p hp => partB_stmt (f3.2 p hp), fun i hi p hp hpl => placesZ_ok (by have := (holeB_inv hi (a8 i hi)).2.2.2.1; omega) p hp hpl⟩
  refine ⟨H1, ⟨f4.1, hu, fun p hp => partB_leaf (f4.2 p hp), fun p hp => partB_stmt (f4.2 p hp), fun i hi p hp hpl => placesZ_ok (holeB_inv hi (a8 i hi)).2.2.2.2 p hp hpl⟩, fun i hi => ?_⟩
  have h1 := (holeB_inv hi (a8 i hi)).2.2.2.1
  obtain ⟨p, hp, hpl⟩ := placesF_some r.fnd r.holes[i] r.fnd.length 0 0 (Int.le_refl _) (by omega) (by unfold placesZ at h1; omega)
  exact H1.place_at hi hp hpl
/-- Nothing is bound. -/
def startS (hs : List Hl) : MSt := List.replicate hs.length none
theorem startS_no (hs : List Hl) (k : Nat) (q : Nat × Nat) : (startS hs)[k]? ≠ some (some q) := by
  unfold startS
  rw [List.getElem?_replicate]
  split <;> simp
def fuelZ (f : List Prt) : Nat := 2 * f.length + 1
/-- Whether a rule fits a part, and what its holes stand for. -/
def atZ (r : RuleM) (l : List Prt) (i : Int) : Option MSt :=
  if ruleZ r = 0 ∧ wellB l = true ∧ 0 ≤ i ∧ i < l.length then (aPart r.fnd l r.holes (fuelZ r.fnd) 0 i.toNat (startS r.holes)).head? else none
/-- The binds. -/
abbrev Bnd := ByteArray × Int × Int
def bindOf (h : Hl) (o : Option (Nat × Nat)) : Bnd := match o with
  | some q => (h.1, (q.1 : Int), (q.2 : Int))
  | none => (h.1, 0, 0)
def bindsOf (hs : List Hl) (σ : MSt) : List Bnd := hs.zipWith bindOf σ
def widest (l : List Prt) : Int := l.foldl (fun n p => max n p.2.1) 0
theorem foldl_max_ge (l : List Prt) : ∀ n : Int, n ≤ l.foldl (fun n p => max n p.2.1) n ∧ ∀ p ∈ l, p.2.1 ≤ l.foldl (fun n p => max n p.2.1) n := by
  induction l with
  | nil => intro n; simp
  | cons p l ih =>
    intro n
    rw [List.foldl_cons]
    obtain ⟨h1, h2⟩ := ih (max n p.2.1)
    refine ⟨by omega, fun q hq => ?_⟩
    rcases List.mem_cons.1 hq with rfl | hq
    · omega
    · exact h2 q hq
theorem widest_ge (l : List Prt) : 0 ≤ widest l ∧ ∀ i (hi : i < l.length), (l[i]).2.1 ≤ widest l := by
  have := foldl_max_ge l 0
  exact ⟨this.1, fun i hi => this.2 _ (List.getElem_mem hi)⟩
theorem atFit {r : RuleM} {l : List Prt} {i : Nat} (hr : ruleZ r = 0) (hl : wellB l = true) (hi : i < l.length) : MFit r.fnd l r.holes (widest l).toNat i := by
  have H := (rule_holes hr).1
  have hw := widest_ge l
  exact ⟨H.well, H.bare, H.top, ⟨_, well_rows hl⟩, hi, fun j hj => by have := hw.2 j hj; omega⟩
/-- What is told of what is found. -/
theorem atZ_inv {r : RuleM} {l : List Prt} {i : Int} {τ : MSt} (h : atZ r l i = some τ) : ruleZ r = 0 ∧ wellB l = true ∧ 0 ≤ i ∧ i < l.length ∧ τ ∈ aPart r.fnd l r.holes (fuelZ r.fnd) 0 i.toNat (startS r.holes) ∧ τ.length = r.holes.length ∧ (∀ h (hh : h < r.holes.length), ∃ q, τ[h]? = some (some q) ∧ Good1 l r.holes i.toNat (endB l i.toNat) h q) := by
  unfold atZ at h
  split at h
  · rename_i hc
    obtain ⟨h1, h2, h3, h4⟩ := hc
    have hm := List.mem_of_head? h
    have H := rule_holes h1
    have hl := well_rows h2
    have hf0 := well_zero H.1.well
    refine ⟨h1, h2, h3, h4, hm, ?_, fun k hk => ?_⟩
    · rw [← ((a_ext _ _ _ _).1 _ _ _ _ hm).1]; unfold startS; simp
    · obtain ⟨p, hp, hpo⟩ := H.2.2 k hk
      obtain ⟨q, hq⟩ := (a_all _ _ _ H.1 _).1 0 _ _ _ hf0.1 H.1.top hm p k (Nat.zero_le _) (by rw [hf0.2]; exact hp) hpo
      rcases (a_good _ _ _ hl _).1 _ _ _ _ (by omega) H.1.top hm k q hq with g | g
      · exact absurd g (startS_no _ _ _)
      · exact ⟨q, hq, g⟩
  · cases h
theorem piece_well {l : List Prt} {us : List Nat} (hl : rowsB l = some us) {i : Nat} (hi : i < l.length) : wellB (piece l i (endB l i)) = true ∧ (piece l i (endB l i)).length = endB l i - i := by
  obtain ⟨t, ht⟩ := piece_one hl hi
  have hg := endB_gt hl hi
  have := (rowsB_sum ht).1
  simp at this
  exact ⟨by rw [wellB_iff, ht, this], piece_len (by omega) hg.2⟩
theorem piece_sits {l : List Prt} {us : List Nat} (hl : rowsB l = some us) {a b : Nat} (hab : a ≤ b) {ts : List Nat} (hp : rowsB (piece l a b) = some ts) : Sits (piece l a b) l a := ⟨⟨_, hp⟩, ⟨_, hl⟩, ⟨_, drop_piece hab⟩⟩
theorem shift_start (d : Nat) (hs : List Hl) : shift d (startS hs) = startS hs := by
  unfold shift startS; rw [List.map_replicate]; rfl
/-- A rule that fits a part by itself fits it wherever it stands. -/
theorem atZ_sits {r : RuleM} {P l : List Prt} {d : Nat} (hS : Sits P l d) (hP : wellB P = true) (hl : wellB l = true) (hd : d < l.length) : atZ r l d = (atZ r P 0).map (shift d) := by
  have h0 := (well_zero hP).1
  unfold atZ
  by_cases hr : ruleZ r = 0
  · rw [if_pos ⟨hr, hl, by omega, by omega⟩, if_pos ⟨hr, hP, by omega, by omega⟩]
    have h1 := (a_shift r.fnd r.holes hS (fuelZ r.fnd)).1 0 0 (startS r.holes) h0 (fun h q hq => absurd hq (startS_no _ _ _))
    rw [shift_start, Nat.zero_add] at h1
    rw [show ((d : Int)).toNat = d by omega, h1, List.head?_map]
    rfl
  · rw [if_neg (fun h => hr h.1), if_neg (fun h => hr h.1)]; rfl
theorem atZ_part {r : RuleM} {l : List Prt} (hl : wellB l = true) {i : Nat} (hi : i < l.length) : atZ r l i = (atZ r (piece l i (endB l i)) 0).map (shift i) := by
  have hw := well_rows hl
  have hp := piece_well hw hi
  have hg := endB_gt hw hi
  exact atZ_sits (piece_sits hw (by omega) (wellB_iff.1 hp.1)) hp.1 hl hi
/-- A part between two names. -/
def wideL (z : Prt) (k : Prt) (P : List Prt) : List Prt := k :: z :: (P ++ [z])
theorem wide_facts {z k : Prt} {P : List Prt} (hP : wellB P = true) (hz : z.2.1 = 0) (hk : k.2.1 = 3) : wellB (wideL z k P) = true ∧ Sits P (wideL z k P) 2 := by
  have h1 : rowsB [z] = some [1] := by
    have := rowsB_cons (p := z) rowsB_nil (by omega) (by simp [hz])
    rw [hz] at this; simpa using this
  have h2 := rowsB_app (wellB_iff.1 hP) h1
  have h3 : rowsB (z :: (P ++ [z])) = some [1, P.length, 1] := by
    have := rowsB_cons (p := z) h2 (by omega) (by simp [hz])
    rw [hz] at this; simpa using this
  have h4 : rowsB (wideL z k P) = some [1 + (1 + (P.length + 1))] := by
    have := rowsB_cons (p := k) h3 (by omega) (by simp [hk])
    rw [hk] at this
    unfold wideL; simpa using this
  refine ⟨?_, ⟨_, wellB_iff.1 hP⟩, ⟨_, h4⟩, ⟨[z], rfl⟩⟩
  rw [wellB_iff, h4]
  simp [wideL]; omega
/-- What the holes stand for, as lists. -/
def valOf (l : List Prt) (τ : MSt) (h : Nat) : List Prt := match τ[h]? with
  | some (some q) => piece l q.1 q.2
  | _ => []
/-- The instance of a term by what is found. -/
def instZ (t : List Prt) (hs : List Hl) (v : Nat → List Prt) : List Prt := iPart t hs v (fuelZ t) 0
theorem atZ_inst {r : RuleM} {l : List Prt} {i : Int} {τ : MSt} (h : atZ r l i = some τ) : instZ r.fnd r.holes (valOf l τ) = piece l i.toNat (endB l i.toNat) := by
  obtain ⟨h1, h2, h3, h4, h5, h6, h7⟩ := atZ_inv h
  exact (a_inst r.fnd l r.holes (well_rows h2) τ (valOf l τ) (fun k q hq => by unfold valOf; rw [hq]) (fuelZ r.fnd)).1 0 _ _ _ (by omega) (rule_holes h1).1.top h5 (MExt.refl _)
theorem startS_con (l : List Prt) (hs : List Hl) (v : Nat → List Prt) : Con l hs v (startS hs) := ⟨by unfold startS; simp, fun h q hq => absurd hq (startS_no _ _ _)⟩
/-- An instance of what is sought is found. -/
theorem atZ_made {r : RuleM} (hr : ruleZ r = 0) {v : Nat → List Prt} (hv : VOK r.holes v) {l : List Prt} (hl : wellB l = true) {i : Nat} (hi : i < l.length) (e : instZ r.fnd r.holes v = piece l i (endB l i)) : ∃ τ, atZ r l i = some τ := by
  have H := (rule_holes hr).1
  have hf0 := well_zero H.well
  obtain ⟨τ, hm, _⟩ := (a_made r.fnd l r.holes (well_rows H.well) (well_rows hl) v hv (fuelZ r.fnd)).1 0 i (startS r.holes) hf0.1 (by rw [hf0.2]; unfold fuelZ; omega) hi H.top (startS_con _ _ _) e
  unfold atZ
  rw [if_pos ⟨hr, hl, by omega, by omega⟩, show ((i : Int)).toNat = i by omega]
  cases ha : aPart r.fnd l r.holes (fuelZ r.fnd) 0 i (startS r.holes) with
  | nil => rw [ha] at hm; cases hm
  | cons σ1 rest => exact ⟨σ1, rfl⟩
/-- The instance of a term is a tree. -/
theorem inst_well {t : List Prt} (ht : wellB t = true) {hs : List Hl} {v : Nat → List Prt} (hv : ∀ h, ∃ ts, rowsB (v h) = some ts) (h1 : ∀ h, holeOf t hs 0 = some h → ∃ x, rowsB (v h) = some [x]) : wellB (instZ t hs v) = true := by
  obtain ⟨ts, g1, g2⟩ := (i_rows t hs v hv (fuelZ t)).1 0
  have h0 := (well_zero ht).1
  unfold instZ
  have : ∃ x, rowsB (iPart t hs v (fuelZ t) 0) = some [x] := by
    cases ho : holeOf t hs 0 with
    | some h =>
      unfold fuelZ
      rw [iPart, ho]
      exact h1 h ho
    | none =>
      have := g2 ho h0 (by unfold fuelZ; omega)
      match ts, this with
      | [x], _ => exact ⟨x, g1⟩
  obtain ⟨x, hx⟩ := this
  have hs := (rowsB_sum hx).1
  simp at hs
  rw [wellB_iff, hx, hs]
/-- A term without holes is its own instance. -/
theorem i_self {f : List Prt} {uf : List Nat} (hf : rowsB f = some uf) {hs : List Hl} (hn : ∀ p, holeOf f hs p = none) (v : Nat → List Prt) : ∀ n, (∀ p, p < f.length → 2 * (endB f p - p) ≤ n → iPart f hs v n p = piece f p (endB f p)) ∧
    (∀ p pend K, pend ≤ f.length → advT f K p pend = some pend → 2 * (pend - p) + 1 ≤ n → iKids f hs v n p pend = piece f p pend)
  | 0 => ⟨(fun p hp h => by have := (endB_gt hf hp).1; omega), (fun _ _ _ _ _ h => by omega)⟩
  | n + 1 => by
    obtain ⟨h1, h2⟩ := i_self hf hn v n
    constructor
    · intro p hp h
      have hg := endB_gt hf hp
      obtain ⟨q, k1, k2⟩ := adv_kids hf hp
      rw [iPart, hn p, List.getElem?_eq_getElem hp]
      simp only []
      rw [h2 _ _ q hg.2 k2 (by omega), (piece_rows f hf hg.2 k2).2, piece_cons hg.1 hg.2, ← k1]
    · intro p pend K hpe hK h
      rw [iKids]
      split
      · rename_i e; subst e; rw [piece_self]
      · rename_i e
        obtain ⟨hlt, J, _, hJ⟩ := adv_next hK e
        have hg := endB_gt hf (show p < f.length by omega)
        have hle := adv_le hf _ _ _ _ hpe hJ
        rw [h1 p (by omega) (by omega), h2 _ _ J hpe hJ (by omega), ← piece_add f (by omega) (by omega)]
theorem inst_self {f : List Prt} (hf : wellB f = true) {hs : List Hl} (hn : ∀ p, holeOf f hs p = none) (v : Nat → List Prt) : instZ f hs v = f := by
  have h0 := well_zero hf
  unfold instZ
  rw [(i_self (well_rows hf) hn v _).1 0 h0.1 (by rw [h0.2]; unfold fuelZ; omega), h0.2]
  unfold piece; simp
/-- A rule without holes fits just the parts that are what it seeks. -/
theorem atZ_plain {r : RuleM} (hr : ruleZ r = 0) (hh : r.holes = []) {l : List Prt} (hl : wellB l = true) {k : Nat} (hk : k < l.length) : (∀ τ, atZ r l k = some τ → τ = [] ∧ r.fnd = piece l k (endB l k)) ∧ (r.fnd = piece l k (endB l k) → ∃ τ, atZ r l k = some τ) := by
  have hn : ∀ p, holeOf r.fnd r.holes p = none := fun p => by unfold holeOf; rw [hh]; rfl
  have H := (rule_holes hr).1
  constructor
  · intro τ h
    have h1 := atZ_inst h
    rw [inst_self H.well hn, show ((k : Int)).toNat = k by omega] at h1
    have h2 := (atZ_inv h).2.2.2.2.2.1
    rw [hh] at h2
    exact ⟨List.length_eq_zero_iff.1 h2, h1⟩
  · intro e
    exact atZ_made hr (v := fun _ => []) (fun h => ⟨⟨[], rfl⟩, fun h1 => by rw [hh] at h1; simp at h1⟩) hl hk (by rw [inst_self H.well hn]; exact e)
/-- Kids by their numbers. -/
theorem up_of {l : List Prt} {us : List Nat} (hl : rowsB l = some us) {i k : Nat} (hi : i < l.length) (h1 : i < k) (h2 : k < endB l i) (h3 : ∀ j, i < j → j < k → endB l j ≤ k) : upN l k = (i : Int) := by
  unfold upN
  have key : ∀ m, i < m → m ≤ k → upI l k m = (i : Int) := by
    intro m
    induction m with
    | zero => intro h; omega
    | succ m ih =>
      intro h4 h5
      rw [upI]
      by_cases e : m = i
      · subst e; rw [if_pos h2]
      · rw [if_neg (by have := h3 m (by omega) (by omega); omega)]
        exact ih (by omega) (by omega)
  exact key k h1 (Nat.le_refl _)
theorem end_within {l : List Prt} {us : List Nat} (hl : rowsB l = some us) {i j : Nat} (hi : i < l.length) (h1 : i ≤ j) (h2 : j < endB l i) : endB l j ≤ endB l i := by
  have hp := piece_well hl hi
  have hg := endB_gt hl hi
  have hS := piece_sits hl (show i ≤ endB l i by omega) (wellB_iff.1 hp.1)
  have hx : j - i < (piece l i (endB l i)).length := by rw [hp.2]; omega
  have e1 := hS.end_ hx
  have e2 := endB_gt (wellB_iff.1 hp.1) hx
  rw [hp.2] at e2
  rw [show j - i + i = j by omega] at e1
  omega
/-- The kid number n of a part. -/
def kidAt (l : List Prt) : Nat → Nat → Nat
  | 0, k => k
  | n + 1, k => kidAt l n (endB l k)
theorem adv_kid {l : List Prt} {k stop : Nat} : ∀ {n b : Nat}, advT l n k stop = some b → kidAt l n k = b
  | 0, b, h => by rw [advT] at h; cases h; rfl
  | n + 1, b, h => by
    rw [advT] at h
    split at h
    · rw [kidAt]
      exact adv_kid h
    · cases h
theorem kidAt_snoc (l : List Prt) : ∀ (n k : Nat), kidAt l (n + 1) k = endB l (kidAt l n k)
  | 0, k => rfl
  | n + 1, k => by rw [kidAt, kidAt_snoc l n (endB l k)]; rfl
theorem kids_go {l : List Prt} {us : List Nat} (hl : rowsB l = some us) {i : Nat} (hi : i < l.length) : ∃ q : Nat, (l[i]).2.1 = (q : Int) ∧ kidAt l q (i + 1) = endB l i ∧ q ≤ l.length ∧ ∀ c, c < q → i < kidAt l c (i + 1) ∧ kidAt l c (i + 1) < l.length := by
  obtain ⟨q, h1, h2⟩ := adv_kids hl hi
  have hg := endB_gt hl hi
  have hle := adv_le hl _ _ _ _ hg.2 h2
  refine ⟨q, h1, adv_kid h2, by omega, fun c hc => ?_⟩
  have h3 := h2
  rw [show q = c + (q - c) by omega, adv_add] at h3
  cases hx : advT l c (i + 1) (endB l i) with
  | none => rw [hx] at h3; cases h3
  | some x =>
    rw [hx, Option.bind_some, show q - c = (q - c - 1) + 1 by omega, advT] at h3
    rw [adv_kid hx]
    split at h3
    · have := adv_le hl _ _ _ _ hg.2 hx
      omega
    · cases h3
end Go.Proofs.YtbhicblkgjgenaaGreatDoor
namespace Go.Proofs.YtbhicblkgjgenaaGreatDoor
set_option linter.all false
open Go.RowKit

/-- A row's cells, in any later world. -/
theorem Row.cells {w w' : World} {v : Value} {n sz : Nat} {cs : List Value} (h : Row w v n sz cs) (hb : Below w.heap.size w w') (hn : 0 < n) :
    ∃ b off cap, v = .slice (some ⟨b, off, none⟩) n cap ∧ n ≤ cap ∧ b < w.heap.size ∧ ∀ i, i < n * sz → w'.cell? ⟨b, off + i, none⟩ = cs[i]? := by
  obtain ⟨h1, a, cap, hv, hc, hz, h2⟩ := h
  obtain ⟨b, off, ha, hlt, hcell⟩ := h2 hn
  subst ha
  exact ⟨b, off, cap, hv, hc, hlt, fun i hi => by rw [hb.cell (p := ⟨b, off + i, none⟩) hlt]; exact hcell i hi⟩
theorem Row.shape {w : World} {v : Value} {n sz : Nat} {cs : List Value} (h : Row w v n sz cs) : ∃ a cap, v = .slice a n cap ∧ n ≤ cap := by
  obtain ⟨_, a, cap, hv, hc, _⟩ := h; exact ⟨a, cap, hv, hc⟩
/-- Elements of so many cells each, one behind the other. -/
theorem flat_at {α : Type} {g : α → List Value} {sz : Nat} (hg : ∀ x, (g x).length = sz) : ∀ (l : List α) (i j : Nat) (hi : i < l.length), j < sz → (l.flatMap g)[i * sz + j]? = (g l[i])[j]?
  | x :: l, 0, j, _, hj => by
    rw [List.flatMap_cons, Nat.zero_mul, Nat.zero_add, List.getElem?_append_left (by rw [hg]; exact hj)]; rfl
  | x :: l, i + 1, j, hi, hj => by
    have h1 : (g x).length ≤ (i + 1) * sz + j := by rw [hg, Nat.add_mul]; omega
    rw [List.flatMap_cons, List.getElem?_append_right h1, hg, show (i + 1) * sz + j - sz = i * sz + j by rw [Nat.add_mul]; omega]
    rw [flat_at hg l i j (by simpa using hi) hj]
    rfl
theorem flat_len {α : Type} {g : α → List Value} {sz : Nat} (hg : ∀ x, (g x).length = sz) : ∀ l : List α, (l.flatMap g).length = l.length * sz
  | [] => by simp
  | x :: l => by rw [List.flatMap_cons, List.length_append, hg, flat_len hg l, List.length_cons, Nat.add_mul]; omega
def holeV (h : Hl) : List Value := [.string h.1, .int .u8 (h.2 : Int)]
def holesV (hs : List Hl) : List Value := hs.flatMap holeV
theorem holesV_length (hs : List Hl) : (holesV hs).length = hs.length * 2 := flat_len (g := holeV) (sz := 2) (fun _ => rfl) hs
/-- A slice of holes, read. -/
def HoleRow (w : World) (v : Value) (hs : List Hl) : Prop := Row w v hs.length 2 (holesV hs)
theorem HoleRow.below {w w' : World} {v : Value} {hs : List Hl} (h : HoleRow w v hs) (hb : Below w.heap.size w w') : HoleRow w' v hs := Row.below h hb
theorem HoleRow.at {w w' : World} {a : Option Addr} {n cap : Nat} {hs : List Hl} (h : HoleRow w (.slice a n cap) hs) (hb : Below w.heap.size w w') (hp : 0 < hs.length) :
    ∃ b off, a = some ⟨b, off, none⟩ ∧ n = hs.length ∧ hs.length ≤ cap ∧ b < w.heap.size ∧ ∀ i (hi : i < hs.length), w'.cell? ⟨b, off + i * 2, none⟩ = some (.string hs[i].1) ∧ w'.cell? ⟨b, off + i * 2 + 1, none⟩ = some (.int .u8 (hs[i].2 : Int)) := by
  obtain ⟨b, off, cap', hv, hc, hlt, hcell⟩ := Row.cells h hb hp
  simp only [Value.slice.injEq] at hv
  obtain ⟨rfl, rfl, rfl⟩ := hv
  refine ⟨b, off, rfl, rfl, hc, hlt, fun i hi => ⟨?_, ?_⟩⟩
  · rw [hcell _ (by omega)]
    have := flat_at (g := holeV) (sz := 2) (fun _ => rfl) hs i 0 hi (by omega)
    rw [Nat.add_zero] at this
    exact this
  · rw [Nat.add_assoc, hcell _ (by omega)]
    exact flat_at (g := holeV) (sz := 2) (fun _ => rfl) hs i 1 hi (by omega)
def bindV (b : Bnd) : List Value := [.string b.1, .int .i64 b.2.1, .int .i64 b.2.2]
def bindsV (bs : List Bnd) : List Value := bs.flatMap bindV
theorem bindsV_length (bs : List Bnd) : (bindsV bs).length = bs.length * 3 := flat_len (g := bindV) (sz := 3) (fun _ => rfl) bs
/-- A slice of binds, read. -/
def BindRow (w : World) (v : Value) (bs : List Bnd) : Prop := Row w v bs.length 3 (bindsV bs)
theorem BindRow.below {w w' : World} {v : Value} {bs : List Bnd} (h : BindRow w v bs) (hb : Below w.heap.size w w') : BindRow w' v bs := Row.below h hb
theorem BindRow.at {w w' : World} {a : Option Addr} {n cap : Nat} {bs : List Bnd} (h : BindRow w (.slice a n cap) bs) (hb : Below w.heap.size w w') (hp : 0 < bs.length) :
    ∃ b off, a = some ⟨b, off, none⟩ ∧ n = bs.length ∧ bs.length ≤ cap ∧ b < w.heap.size ∧ ∀ i (hi : i < bs.length), w'.cell? ⟨b, off + i * 3, none⟩ = some (.string bs[i].1) ∧ w'.cell? ⟨b, off + i * 3 + 1, none⟩ = some (.int .i64 bs[i].2.1) ∧ w'.cell? ⟨b, off + i * 3 + 2, none⟩ = some (.int .i64 bs[i].2.2) := by
  obtain ⟨b, off, cap', hv, hc, hlt, hcell⟩ := Row.cells h hb hp
  simp only [Value.slice.injEq] at hv
  obtain ⟨rfl, rfl, rfl⟩ := hv
  refine ⟨b, off, rfl, rfl, hc, hlt, fun i hi => ⟨?_, ?_, ?_⟩⟩
  · rw [hcell _ (by omega)]
    have := flat_at (g := bindV) (sz := 3) (fun _ => rfl) bs i 0 hi (by omega)
    rw [Nat.add_zero] at this
    exact this
  · rw [Nat.add_assoc, hcell _ (by omega)]
    exact flat_at (g := bindV) (sz := 3) (fun _ => rfl) bs i 1 hi (by omega)
  · rw [Nat.add_assoc, hcell _ (by omega)]
    exact flat_at (g := bindV) (sz := 3) (fun _ => rfl) bs i 2 hi (by omega)
/-- A rule by value. -/
def ruleAgg (r : RuleM) (vh vf vb : Value) : Value := .agg #[.string r.nm, .int .u8 (r.goal : Int), vh, vf, vb]
/-- What a rule's slices hold. -/
structure RuleIn (w : World) (r : RuleM) (vh vf vb : Value) : Prop where
  H : HoleRow w vh r.holes
  F : PartRow w vf r.fnd
  B : PartRow w vb r.by'
theorem RuleIn.below {w w' : World} {r : RuleM} {vh vf vb : Value} (h : RuleIn w r vh vf vb) (hb : Below w.heap.size w w') : RuleIn w' r vh vf vb := ⟨h.H.below hb, h.F.below hb, h.B.below hb⟩
def SmallL (l : List Prt) : Prop := l.length ≤ 1048576 ∧ ∀ p ∈ l, p.1 < 256 ∧ p.2.2.size ≤ 1048576
/-- Rules as the statements' inputs hold them. -/
structure SmallR (r : RuleM) : Prop where
  n : r.nm.size ≤ 1048576
  g : r.goal < 256
  h : r.holes.length ≤ 1048576 ∧ ∀ x ∈ r.holes, x.1.size ≤ 1048576 ∧ x.2 < 256
  f : SmallL r.fnd
  b : SmallL r.by'
end Go.Proofs.YtbhicblkgjgenaaGreatDoor
namespace Go.Proofs.YtbhicblkgjgenaaGreatDoor
set_option linter.all false
open Go.RowKit

/-- What holds at the outer loop's head. -/
def e2Rel (l : List Prt) (w : World) (iv : Value) (wr : World) : Prop :=
  ∃ (k : Nat) (E : List Int), iv = .int .i64 ((k : Int) - 1) ∧ k ≤ l.length ∧ E.length = l.length ∧ (∀ j, k ≤ j → j < l.length → E.getD j 0 = (endB l j : Int)) ∧
    wr.heap[w.heap.size]? = some (.cells (E.map (Value.int .i64)).toArray 3 (0, 0)) ∧ Below w.heap.size w wr
/-- What holds at the inner loop's head. -/
def e2In (l : List Prt) (w : World) (E : List Int) (i q : Nat) (cv : Value) (wr : World) : Prop :=
  ∃ c : Nat, cv = .int .i64 (c : Int) ∧ c ≤ q ∧ wr.heap[w.heap.size]? = some (.cells ((E.set i (kidAt l c (i + 1) : Int)).map (Value.int .i64)).toArray 3 (0, 0)) ∧ Below w.heap.size w wr
/-- What ends answers. -/
@[irreducible] def ends2Post (l : List Prt) (w0 : World) (e : Ending) (w' : World) : Prop :=
  ∃ v, e = .returned v ∧ Below w0.heap.size w0 w' ∧ w'.ownsRow w0.heap.size 3 1 v l.length ((endsL l).map (Value.int .i64))
theorem owns_block {w : World} {B g : Nat} {n : Nat} {E : List Int} (h : w.heap[g]? = some (.cells (E.map (Value.int .i64)).toArray 3 (0, 0))) (hB : B ≤ g) (hn : E.length = n) (hm : n ≤ 1000000000) : w.ownsRow B 3 1 (.slice (some ⟨g, 0, none⟩) n n) n (E.map (Value.int .i64)) :=
  ⟨by simp [hn], Or.inr ⟨g, n, _, rfl, hB, h, Nat.le_refl _, by unfold maxLen; omega, by simp [hn], by simp; rw [List.take_of_length_le (by simp [hn])]⟩⟩
set_option maxRecDepth 100000 in
set_option maxHeartbeats 8000000 in
theorem match_ends (l : List Prt) (hl : l.length ≤ 1000000000) (us : List Nat) (hus : rowsB l = some us) (v : Value) (w : World) (hr : PartRow w v l) :
    Calls Tryz.prog 39 #[v] w (ends2Post l w) := by
  have HQ : RowKit.Hid (∀ v' w', Below w.heap.size w w' → w'.ownsRow w.heap.size 3 1 v' l.length ((endsL l).map (Value.int .i64)) → ends2Post l w (.returned v') w') := Lib.hid fun v' w' h1 h2 => by
    unfold ends2Post; exact ⟨v', rfl, h1, h2⟩
  generalize ends2Post l w = Q at *
  have HR := Lib.hid hr
  have HU := Lib.hid hus
  obtain ⟨va, vcap, rfl, hvc⟩ := hr.slice
  clear hr hus
  have hmk := Tmake_ints l.length hl
  have hwl : IntKind.i64.wrap ((l.length : Int) - 1) = (l.length : Int) - 1 := by rw [IntKind.wrap_i64]; omega
  go_enter Tryz.func39, Tryz.ntmps39
  go_wp2_with fail
  have HK0 : RowKit.Hid ((w.alloc (.cells (Array.replicate l.length (Value.int .i64 0)) 3)).heap[w.heap.size]? = some (.cells ((List.replicate l.length (0 : Int)).map (Value.int .i64)).toArray 3 (0, 0))) := Lib.hid (by
    have := heap_alloc_new w (.cells (Array.replicate l.length (Value.int .i64 0)) 3)
    rw [this, List.map_replicate, List.toArray_replicate])
  have HB0 : RowKit.Hid (Below w.heap.size w (w.alloc (.cells (Array.replicate l.length (Value.int .i64 0)) 3))) := Lib.hid ((Below.refl _ _).alloc (Nat.le_refl _) _)
  generalize w.alloc (.cells (Array.replicate l.length (Value.int .i64 0)) 3) = W0 at *
  generalize hBB : w.heap.size = B at *
  have HBB := Lib.hid hBB
  clear hBB
  go_loopw [4] (fun j wr => e2Rel l w j wr) (fun j _ => (intOf j + 1).toNat)
  case atStart =>
    refine ⟨l.length, List.replicate l.length 0, rfl, Nat.le_refl _, by simp, fun i h1 h2 => by omega, ?_, ?_⟩
    · rw [HBB.out]; exact HK0.out
    · rw [HBB.out]; exact HB0.out
  case round =>
    obtain ⟨k, E, rfl, hk, hEl, hEq, hh, hb⟩ := hrel
    rw [HBB.out] at hh hb
    have HB := Lib.hid hb
    have HH := Lib.hid hh
    have HEQ := Lib.hid hEq
    have HEL := Lib.hid hEl
    have hBlt : B < wr.heap.size := lt_of_block hh
    clear hb hh hEq hEl
    by_cases hk0 : 0 < k
    · obtain ⟨i, rfl⟩ : ∃ i, k = i + 1 := ⟨k - 1, by omega⟩
      rw [show (((i + 1 : Nat) : Int) - 1) = (i : Int) by omega]
      have hil : i < l.length := hk
      obtain ⟨b, off, rfl, _, _, hbl, hcell⟩ := HR.out.at (HBB.out ▸ HB.out) (show 0 < l.length by omega)
      obtain ⟨q, hq1, hq2, hq4, hq3⟩ := kids_go HU.out hil
      have c0 : wr.cell? ⟨b, off + i * 3 + 1, none⟩ = some (.int .i64 (q : Int)) := by rw [(hcell i hil).2.1, hq1]
      have HKI := Lib.hid hq3
      have HKE := Lib.hid hq2
      have hi0 : (0 : Int) ≤ i := by omega
      have hil' : (i : Int) < l.length := by omega
      have hic : (i : Int) < vcap := by omega
      have hwi : IntKind.i64.wrap ((i : Int) + 1) = (i : Int) + 1 := by rw [IntKind.wrap_i64]; omega
      have hwm : IntKind.i64.wrap ((i : Int) - 1) = (i : Int) - 1 := by rw [IntKind.wrap_i64]; omega
      have c1 : wr.cell? ⟨B, i, none⟩ = some (.int .i64 (E.getD i 0)) := by
        simp [World.cell?, HH.out, HEL.out, hil, List.getD_eq_getElem?_getD]
      have z1 : wr.frozen? ⟨B, i, none⟩ = false := by simp [World.frozen?, HH.out]
      have hbB : b ≠ B := by have := HBB.out; omega
      have c0' : (wr.setCell ⟨B, i, none⟩ (.int .i64 ((i : Int) + 1))).cell? ⟨b, off + i * 3 + 1, none⟩ = some (.int .i64 (q : Int)) := by
        rw [Tcell_setCell_ne (by exact hbB)]; exact c0
      have HAT : RowKit.Hid (e2In l w E i q (.int .i64 0) (wr.setCell ⟨B, i, none⟩ (.int .i64 ((i : Int) + 1)))) := Lib.hid ⟨0, rfl, Nat.zero_le _, by
        rw [HBB.out, heap_setCell_same _ _ _ _ _ _ HH.out, List.setIfInBounds_toArray, ← List.map_set]; rfl, by
        rw [HBB.out]; exact HB.out.setCell (p := ⟨B, i, none⟩) (Nat.le_refl _) _⟩
      clear hcell hq1 hq2 hq3 hk0 c0 hbB
      go_wp2_with fail
      clear c1 z1 c0'
      go_loopw [25] (fun cv wx => e2In l w E i q cv wx) (fun cv _ => q - (intOf cv).toNat)
      case atStart => exact HAT.out
      case round =>
        obtain ⟨c, rfl, hcq, hh2, hb2⟩ := hrel
        rw [HBB.out] at hh2 hb2
        have HH2 := Lib.hid hh2
        have HB2 := Lib.hid hb2
        clear hh2 hb2 HAT
        by_cases hlt : c < q
        · obtain ⟨x1, x2⟩ := HKI.out c hlt
          have HXS := Lib.hid (kidAt_snoc l c (i + 1))
          generalize kidAt l c (i + 1) = x at *
          have d1 : wr.cell? ⟨B, i, none⟩ = some (.int .i64 (x : Int)) := by
            simp [World.cell?, HH2.out, HEL.out, hil]
          have d2 : wr.cell? ⟨B, x, none⟩ = some (.int .i64 (endB l x : Int)) := by
            have := HEQ.out x (by omega) x2
            rw [List.getD_eq_getElem?_getD] at this
            simp only [World.cell?, HH2.out]
            rw [← this]
            simp [HEL.out, x2, show ¬ i = x by omega]
          have d3 : wr.frozen? ⟨B, i, none⟩ = false := by simp [World.frozen?, HH2.out]
          have HN1 : RowKit.Hid ((wr.setCell ⟨B, i, none⟩ (.int .i64 (endB l x : Int))).heap[w.heap.size]? = some (.cells ((E.set i (kidAt l (c + 1) (i + 1) : Int)).map (Value.int .i64)).toArray 3 (0, 0))) := Lib.hid (by
            rw [HBB.out, HXS.out, heap_setCell_same _ _ _ _ _ _ HH2.out, List.setIfInBounds_toArray, ← List.map_set, List.set_set])
          have HN2 : RowKit.Hid (Below w.heap.size w (wr.setCell ⟨B, i, none⟩ (.int .i64 (endB l x : Int)))) := Lib.hid (by
            rw [HBB.out]; exact HB2.out.setCell (p := ⟨B, i, none⟩) (Nat.le_refl _) _)
          have hx0 : (0 : Int) ≤ (x : Int) := by omega
          have hxl : (x : Int) < l.length := by omega
          have hci : (c : Int) < q := by omega
          have hwc : IntKind.i64.wrap ((c : Int) + 1) = (c : Int) + 1 := by rw [IntKind.wrap_i64]; omega
          generalize endB l x = y at *
          clear HXS
          go_wp2_with fail
          refine ⟨⟨c + 1, by go_num, by omega, HN1.out, HN2.out⟩, by simp [intOf]; omega⟩
        · obtain rfl : c = q := by omega
          have hci : ¬ (c : Int) < (c : Int) := by omega
          have HN : RowKit.Hid (e2Rel l w (.int .i64 ((i : Int) - 1)) wr) := Lib.hid ⟨i, E.set i (endB l i : Int), rfl, by omega, by rw [List.length_set]; exact HEL.out, fun j h1 h2 => by
            rw [List.getD_eq_getElem?_getD, List.getElem?_set]
            by_cases e : i = j
            · subst e; (rw [if_pos rfl, if_pos (by rw [HEL.out]; exact hil)]; try rfl)
            · rw [if_neg e, ← List.getD_eq_getElem?_getD]; exact HEQ.out j (by omega) h2, by rw [HBB.out, ← HKE.out]; exact HH2.out, by rw [HBB.out]; exact HB2.out⟩
          go_wp2_with fail
          refine ⟨HN.out, by simp [intOf]; try omega⟩
    · obtain rfl : k = 0 := by omega
      rw [show (((0 : Nat) : Int) - 1) = -1 by rfl]
      have hEE : E = endsL l := by
        apply List.ext_getElem (by rw [HEL.out, endsL_length])
        intro j h1 h2
        have h3 := HEQ.out j (by omega) (by have := HEL.out; omega)
        have h4 := endsL_get (l := l) (j := j) (by have := HEL.out; omega)
        rw [List.getD_eq_getElem?_getD, List.getElem?_eq_getElem h1] at h3
        rw [List.getElem?_eq_getElem h2] at h4
        simp only [Option.getD_some] at h3
        rw [h3]; exact (Option.some.inj h4).symm
      subst hEE
      have HX := Lib.hid (HQ.out (.slice (some ⟨B, 0, none⟩) l.length l.length) wr HB.out (owns_block HH.out (Nat.le_refl _) (endsL_length l) hl))
      go_wp2_with fail
      exact HX.out
end Go.Proofs.YtbhicblkgjgenaaGreatDoor
namespace Go.Proofs.YtbhicblkgjgenaaGreatDoor
set_option linter.all false
open Go.RowKit

set_option maxRecDepth 100000 in
set_option maxHeartbeats 8000000 in
theorem find_ends (l : List Prt) (hl : l.length ≤ 1000000000) (us : List Nat) (hus : rowsB l = some us) (v : Value) (w : World) (hr : PartRow w v l) :
    Calls Tryz.prog 86 #[v] w (ends2Post l w) := by
  have HQ : RowKit.Hid (∀ v' w', Below w.heap.size w w' → w'.ownsRow w.heap.size 3 1 v' l.length ((endsL l).map (Value.int .i64)) → ends2Post l w (.returned v') w') := Lib.hid fun v' w' h1 h2 => by
    unfold ends2Post; exact ⟨v', rfl, h1, h2⟩
  generalize ends2Post l w = Q at *
  have HR := Lib.hid hr
  have HU := Lib.hid hus
  obtain ⟨va, vcap, rfl, hvc⟩ := hr.slice
  clear hr hus
  have hmk := Tmake_ints l.length hl
  have hwl : IntKind.i64.wrap ((l.length : Int) - 1) = (l.length : Int) - 1 := by rw [IntKind.wrap_i64]; omega
  go_enter Tryz.func86, Tryz.ntmps86
  go_wp2_with fail
  have HK0 : RowKit.Hid ((w.alloc (.cells (Array.replicate l.length (Value.int .i64 0)) 3)).heap[w.heap.size]? = some (.cells ((List.replicate l.length (0 : Int)).map (Value.int .i64)).toArray 3 (0, 0))) := Lib.hid (by
    have := heap_alloc_new w (.cells (Array.replicate l.length (Value.int .i64 0)) 3)
    rw [this, List.map_replicate, List.toArray_replicate])
  have HB0 : RowKit.Hid (Below w.heap.size w (w.alloc (.cells (Array.replicate l.length (Value.int .i64 0)) 3))) := Lib.hid ((Below.refl _ _).alloc (Nat.le_refl _) _)
  generalize w.alloc (.cells (Array.replicate l.length (Value.int .i64 0)) 3) = W0 at *
  generalize hBB : w.heap.size = B at *
  have HBB := Lib.hid hBB
  clear hBB
  go_loopw [4] (fun j wr => e2Rel l w j wr) (fun j _ => (intOf j + 1).toNat)
  case atStart =>
    refine ⟨l.length, List.replicate l.length 0, rfl, Nat.le_refl _, by simp, fun i h1 h2 => by omega, ?_, ?_⟩
    · rw [HBB.out]; exact HK0.out
    · rw [HBB.out]; exact HB0.out
  case round =>
    obtain ⟨k, E, rfl, hk, hEl, hEq, hh, hb⟩ := hrel
    rw [HBB.out] at hh hb
    have HB := Lib.hid hb
    have HH := Lib.hid hh
    have HEQ := Lib.hid hEq
    have HEL := Lib.hid hEl
    have hBlt : B < wr.heap.size := lt_of_block hh
    clear hb hh hEq hEl
    by_cases hk0 : 0 < k
    · obtain ⟨i, rfl⟩ : ∃ i, k = i + 1 := ⟨k - 1, by omega⟩
      rw [show (((i + 1 : Nat) : Int) - 1) = (i : Int) by omega]
      have hil : i < l.length := hk
      obtain ⟨b, off, rfl, _, _, hbl, hcell⟩ := HR.out.at (HBB.out ▸ HB.out) (show 0 < l.length by omega)
      obtain ⟨q, hq1, hq2, hq4, hq3⟩ := kids_go HU.out hil
      have c0 : wr.cell? ⟨b, off + i * 3 + 1, none⟩ = some (.int .i64 (q : Int)) := by rw [(hcell i hil).2.1, hq1]
      have HKI := Lib.hid hq3
      have HKE := Lib.hid hq2
      have hi0 : (0 : Int) ≤ i := by omega
      have hil' : (i : Int) < l.length := by omega
      have hic : (i : Int) < vcap := by omega
      have hwi : IntKind.i64.wrap ((i : Int) + 1) = (i : Int) + 1 := by rw [IntKind.wrap_i64]; omega
      have hwm : IntKind.i64.wrap ((i : Int) - 1) = (i : Int) - 1 := by rw [IntKind.wrap_i64]; omega
      have c1 : wr.cell? ⟨B, i, none⟩ = some (.int .i64 (E.getD i 0)) := by
        simp [World.cell?, HH.out, HEL.out, hil, List.getD_eq_getElem?_getD]
      have z1 : wr.frozen? ⟨B, i, none⟩ = false := by simp [World.frozen?, HH.out]
      have hbB : b ≠ B := by have := HBB.out; omega
      have c0' : (wr.setCell ⟨B, i, none⟩ (.int .i64 ((i : Int) + 1))).cell? ⟨b, off + i * 3 + 1, none⟩ = some (.int .i64 (q : Int)) := by
        rw [Tcell_setCell_ne (by exact hbB)]; exact c0
      have HAT : RowKit.Hid (e2In l w E i q (.int .i64 0) (wr.setCell ⟨B, i, none⟩ (.int .i64 ((i : Int) + 1)))) := Lib.hid ⟨0, rfl, Nat.zero_le _, by
        rw [HBB.out, heap_setCell_same _ _ _ _ _ _ HH.out, List.setIfInBounds_toArray, ← List.map_set]; rfl, by
        rw [HBB.out]; exact HB.out.setCell (p := ⟨B, i, none⟩) (Nat.le_refl _) _⟩
      clear hcell hq1 hq2 hq3 hk0 c0 hbB
      go_wp2_with fail
      clear c1 z1 c0'
      go_loopw [25] (fun cv wx => e2In l w E i q cv wx) (fun cv _ => q - (intOf cv).toNat)
      case atStart => exact HAT.out
      case round =>
        obtain ⟨c, rfl, hcq, hh2, hb2⟩ := hrel
        rw [HBB.out] at hh2 hb2
        have HH2 := Lib.hid hh2
        have HB2 := Lib.hid hb2
        clear hh2 hb2 HAT
        by_cases hlt : c < q
        · obtain ⟨x1, x2⟩ := HKI.out c hlt
          have HXS := Lib.hid (kidAt_snoc l c (i + 1))
          generalize kidAt l c (i + 1) = x at *
          have d1 : wr.cell? ⟨B, i, none⟩ = some (.int .i64 (x : Int)) := by
            simp [World.cell?, HH2.out, HEL.out, hil]
          have d2 : wr.cell? ⟨B, x, none⟩ = some (.int .i64 (endB l x : Int)) := by
            have := HEQ.out x (by omega) x2
            rw [List.getD_eq_getElem?_getD] at this
            simp only [World.cell?, HH2.out]
            rw [← this]
            simp [HEL.out, x2, show ¬ i = x by omega]
          have d3 : wr.frozen? ⟨B, i, none⟩ = false := by simp [World.frozen?, HH2.out]
          have HN1 : RowKit.Hid ((wr.setCell ⟨B, i, none⟩ (.int .i64 (endB l x : Int))).heap[w.heap.size]? = some (.cells ((E.set i (kidAt l (c + 1) (i + 1) : Int)).map (Value.int .i64)).toArray 3 (0, 0))) := Lib.hid (by
            rw [HBB.out, HXS.out, heap_setCell_same _ _ _ _ _ _ HH2.out, List.setIfInBounds_toArray, ← List.map_set, List.set_set])
          have HN2 : RowKit.Hid (Below w.heap.size w (wr.setCell ⟨B, i, none⟩ (.int .i64 (endB l x : Int)))) := Lib.hid (by
            rw [HBB.out]; exact HB2.out.setCell (p := ⟨B, i, none⟩) (Nat.le_refl _) _)
          have hx0 : (0 : Int) ≤ (x : Int) := by omega
          have hxl : (x : Int) < l.length := by omega
          have hci : (c : Int) < q := by omega
          have hwc : IntKind.i64.wrap ((c : Int) + 1) = (c : Int) + 1 := by rw [IntKind.wrap_i64]; omega
          generalize endB l x = y at *
          clear HXS
          go_wp2_with fail
          refine ⟨⟨c + 1, by go_num, by omega, HN1.out, HN2.out⟩, by simp [intOf]; omega⟩
        · obtain rfl : c = q := by omega
          have hci : ¬ (c : Int) < (c : Int) := by omega
          have HN : RowKit.Hid (e2Rel l w (.int .i64 ((i : Int) - 1)) wr) := Lib.hid ⟨i, E.set i (endB l i : Int), rfl, by omega, by rw [List.length_set]; exact HEL.out, fun j h1 h2 => by
            rw [List.getD_eq_getElem?_getD, List.getElem?_set]
            by_cases e : i = j
            · subst e; (rw [if_pos rfl, if_pos (by rw [HEL.out]; exact hil)]; try rfl)
            · rw [if_neg e, ← List.getD_eq_getElem?_getD]; exact HEQ.out j (by omega) h2, by rw [HBB.out, ← HKE.out]; exact HH2.out, by rw [HBB.out]; exact HB2.out⟩
          go_wp2_with fail
          refine ⟨HN.out, by simp [intOf]; try omega⟩
    · obtain rfl : k = 0 := by omega
      rw [show (((0 : Nat) : Int) - 1) = -1 by rfl]
      have hEE : E = endsL l := by
        apply List.ext_getElem (by rw [HEL.out, endsL_length])
        intro j h1 h2
        have h3 := HEQ.out j (by omega) (by have := HEL.out; omega)
        have h4 := endsL_get (l := l) (j := j) (by have := HEL.out; omega)
        rw [List.getD_eq_getElem?_getD, List.getElem?_eq_getElem h1] at h3
        rw [List.getElem?_eq_getElem h2] at h4
        simp only [Option.getD_some] at h3
        rw [h3]; exact (Option.some.inj h4).symm
      subst hEE
      have HX := Lib.hid (HQ.out (.slice (some ⟨B, 0, none⟩) l.length l.length) wr HB.out (owns_block HH.out (Nat.le_refl _) (endsL_length l) hl))
      go_wp2_with fail
      exact HX.out
end Go.Proofs.YtbhicblkgjgenaaGreatDoor
