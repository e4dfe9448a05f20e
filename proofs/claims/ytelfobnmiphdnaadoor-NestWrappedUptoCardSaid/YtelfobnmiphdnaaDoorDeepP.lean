/- Rows of brackets, in plain Lean: each bracket is a lexeme by itself, and so is a letter between them. -/
import Derived.Test.YtelfobnmiphdnaaDoorWrapP
import Derived.Test.YtelfobnmiphdnaaDoorNestP
namespace Go.Proofs.YtelfobnmiphdnaaDoor
set_option linter.all false
attribute [local irreducible] byts

def brs : List Nat := [40, 41, 91, 93, 123, 125]
theorem br_head3 : ∀ m ∈ signs3, m.headD 0 ∉ brs := by decide +kernel
theorem br_head2 : ∀ m ∈ signs2, m.headD 0 ∉ brs := by decide +kernel
theorem br_head1 : ∀ c ∈ brs, signs1.contains [c] = true := by decide +kernel
theorem sign_br {l : List Nat} {c : Nat} (hc : c ∈ brs) (h : l.headD 0 = c) (hl : 0 < l.length) : signL l = 1 := by
  unfold signL
  have n3 : ¬ signs3.contains (l.take 3) = true := fun g => by
    have := br_head3 _ (List.contains_iff_mem.1 g)
    rw [headD_take _ _ (by omega), h] at this
    exact this hc
  have n2 : ¬ signs2.contains (l.take 2) = true := fun g => by
    have := br_head2 _ (List.contains_iff_mem.1 g)
    rw [headD_take _ _ (by omega), h] at this
    exact this hc
  have y1 : signs1.contains (l.take 1) = true := by
    cases l with
    | nil => simp at hl
    | cons x r =>
      have hx : x = c := h
      subst hx
      show signs1.contains [x] = true
      exact br_head1 x hc
  rw [if_neg n3, if_neg n2, if_pos y1]
theorem br_facts : ∀ c ∈ brs, c < 128 ∧ c ≠ 65279 ∧ letter ((c : Nat) : Int) = false ∧ digit ((c : Nat) : Int) = false ∧ blank ((c : Nat) : Int) = false ∧ c ≠ 47 ∧ c ≠ 59 ∧ c ≠ 46 ∧ c ≠ 0 ∧ ¬ dval c < 10 ∧ isMark c = false := by
  unfold letter digit blank; decide +kernel
theorem lex_br {u : ByteArray} {a : Nat} (ha : a < u.size) (h : bt u a ∈ brs) : lex u a = (8, ((a + 1 : Nat) : Int)) := by
  obtain ⟨f1, f2, f3, _, f5, f6, f7, f8, f9, f10, f11⟩ := br_facts _ h
  have hr := rd_ascii ha f1
  have hs : signL (byts (u.extract a u.size)) = 1 := sign_br h (byts_headD a ha) (by rw [byts_length, ByteArray.size_extract]; omega)
  have hnb : numBegins u a = false := by
    unfold numBegins
    rw [decide_eq_false f10, decide_eq_false f8]; simp
  have hns : numScan u (a : Nat) = (0, 0, 15) := by
    unfold numScan
    rw [Int.toNat_natCast, if_neg (fun g => by rw [hnb] at g; cases g.2)]
  have hbg : (begun u (a : Nat)).2.2.2 = 15 := by rw [begun_no (i := a) f11]
  have h1 : (rd u a).1 = bt u a := by rw [hr]
  exact lex_sign_at (n := 1) (by rw [h1]; exact f2) (by rw [h1, f5]; decide) (fun g => f6 g.2.1) (fun g => f6 g.2.1) (by rw [h1, f3]; decide) f7 (by rw [hns]; decide) (by rw [hbg]; decide) hs (by omega)
theorem word_one : word ⟨#[120]⟩ = false ∧ word ⟨#[97]⟩ = false := by unfold word; decide +kernel
theorem let_facts : ∀ c ∈ [120, 97], c < 128 ∧ c ≠ 65279 ∧ letter ((c : Nat) : Int) = true ∧ blank ((c : Nat) : Int) = false ∧ c ≠ 47 ∧ c ≠ 0 := by
  unfold letter blank; decide +kernel
/-- A letter before a bracket or the text's end. -/
theorem lex_let {u : ByteArray} {a : Nat} (ha : a < u.size) (h : bt u a = 120 ∨ bt u a = 97) (hn : a + 1 = u.size ∨ (a + 1 < u.size ∧ bt u (a + 1) ∈ brs)) : lex u a = (1, ((a + 1 : Nat) : Int)) := by
  obtain ⟨f1, f2, f3, f5, f6, f9⟩ := let_facts (bt u a) (by simp; omega)
  have hr := rd_ascii ha f1
  have hw : wordTo u a = a + 1 := by
    have hin : inWord u a = true := by unfold inWord; rw [hr]; simp [f3]
    rw [wordTo, dif_pos ⟨ha, hin⟩, hr]
    show wordTo u (a + 1) = a + 1
    rw [wordTo, dif_neg]
    rintro ⟨g1, g2⟩
    rcases hn with hn | ⟨_, hn⟩
    · omega
    · obtain ⟨e1, _, e3, e4, _⟩ := br_facts _ hn
      unfold inWord at g2
      rw [rd_ascii g1 e1] at g2
      simp [e3, e4] at g2
  have hx : word (u.extract a (a + 1)) = false := by
    have hp : u.extract a (a + 1) = ⟨#[(u.extract a (a + 1)).get! 0]⟩ := by
      have hz := piece_size (s := u) (i := a) (e := a + 1) (by omega) ha
      apply ByteArray.ext
      apply Array.ext'
      have hl : (u.extract a (a + 1)).data.toList.length = 1 := by rw [← size_data, hz]; omega
      cases hd : (u.extract a (a + 1)).data.toList with
      | nil => rw [hd] at hl; cases hl
      | cons x r =>
        rw [hd] at hl
        have : r = [] := List.eq_nil_of_length_eq_zero (by simpa using hl)
        subst this
        rw [get!_list, hd]; rfl
    have hb : ((u.extract a (a + 1)).get! 0).toNat = bt u a := by
      have := piece_bt (s := u) (i := a) (e := a + 1) (j := 0) (by omega) ha
      rw [Nat.add_zero] at this; exact this
    rw [hp]
    rcases h with h | h
    · have : (u.extract a (a + 1)).get! 0 = 120 := UInt8.toNat_inj.1 (by rw [hb, h]; rfl)
      rw [this]; exact word_one.1
    · have : (u.extract a (a + 1)).get! 0 = 97 := UInt8.toNat_inj.1 (by rw [hb, h]; rfl)
      rw [this]; exact word_one.2
  have h1 : (rd u a).1 = bt u a := by rw [hr]
  unfold lex
  rw [h1, if_neg f2, if_neg (by rw [f5]; decide), if_neg (fun g => f6 g.2.1), if_neg (fun g => f6 g.2.1), if_pos f3, hw, hx]
  rfl
/-- From a place on only brackets: each is a lexeme. -/
def oneBy (i n : Nat) : List Tok := (List.range' i (n - i)).map fun j => ((8 : Int), j, j + 1)
theorem oneBy_end (n : Nat) : oneBy n n = [] := by unfold oneBy; rw [Nat.sub_self]; rfl
theorem oneBy_cons {i n : Nat} (h : i < n) : oneBy i n = (8, i, i + 1) :: oneBy (i + 1) n := by
  unfold oneBy
  obtain ⟨d, hd⟩ : ∃ d, n - i = d + 1 := ⟨n - i - 1, by omega⟩
  rw [hd, show n - (i + 1) = d by omega, List.range'_succ]; rfl
theorem alls_brs (u : ByteArray) (i : Nat) (hi : i ≤ u.size) (h : ∀ j, i ≤ j → j < u.size → bt u j ∈ brs) : alls u i = (oneBy i u.size, none) ∧ cleanZ u i < 0 := by
  by_cases hlt : i < u.size
  · have hb := h i (Nat.le_refl _) hlt
    obtain ⟨f1, _, _, _, _, _, _, _, f9, _⟩ := br_facts _ hb
    obtain ⟨g1, g2⟩ := alls_brs u (i + 1) hlt (fun j j1 j2 => h j (by omega) j2)
    rw [alls_step hlt (lex_br hlt hb) (by decide), g1, oneBy_cons hlt]
    exact ⟨rfl, clean_ascii hlt f1 f9 g2⟩
  · obtain rfl : i = u.size := by omega
    rw [alls_end hlt, oneBy_end]
    exact ⟨rfl, clean_size u⟩
termination_by u.size - i
decreasing_by omega
/-- Brackets up to a letter, and brackets behind it. -/
theorem alls_deep (u : ByteArray) (k : Nat) (hk : k < u.size) (hl : bt u k = 120 ∨ bt u k = 97) (hr : ∀ j, k < j → j < u.size → bt u j ∈ brs) (i : Nat) (hi : i ≤ k) (h : ∀ j, i ≤ j → j < k → bt u j ∈ brs) :
    alls u i = (oneBy i k ++ (1, k, k + 1) :: oneBy (k + 1) u.size, none) ∧ cleanZ u i < 0 := by
  by_cases hlt : i < k
  · have hb := h i (Nat.le_refl _) hlt
    obtain ⟨f1, _, _, _, _, _, _, _, f9, _⟩ := br_facts _ hb
    obtain ⟨g1, g2⟩ := alls_deep u k hk hl hr (i + 1) hlt (fun j j1 j2 => h j (by omega) j2)
    rw [alls_step (by omega) (lex_br (by omega) hb) (by decide), g1, oneBy_cons hlt]
    exact ⟨rfl, clean_ascii (by omega) f1 f9 g2⟩
  · obtain rfl : i = k := by omega
    obtain ⟨g1, g2⟩ := alls_brs u (i + 1) hk (fun j j1 j2 => hr j (by omega) j2)
    have hn : i + 1 = u.size ∨ (i + 1 < u.size ∧ bt u (i + 1) ∈ brs) := by
      rcases Nat.lt_or_ge (i + 1) u.size with q | q
      · exact Or.inr ⟨q, hr _ (by omega) q⟩
      · exact Or.inl (by omega)
    rw [alls_step hk (lex_let hk hl hn) (by decide), g1, oneBy_end]
    exact ⟨rfl, clean_ascii hk (by omega) (by omega) g2⟩
termination_by k - i
decreasing_by omega
theorem one_text {u : ByteArray} {a : Nat} (ha : a < u.size) (b : UInt8) (h : bt u a = b.toNat) : u.extract a (a + 1) = ⟨#[b]⟩ := by
  have hz := piece_size (s := u) (i := a) (e := a + 1) (by omega) ha
  have hb := piece_bt (s := u) (i := a) (e := a + 1) (j := 0) (by omega) ha
  rw [show a + 0 = a from rfl, h] at hb
  unfold bt at hb
  rw [get!_list] at hb
  apply ByteArray.ext
  apply Array.ext'
  have hl : (u.extract a (a + 1)).data.toList.length = 1 := by rw [← size_data, hz]; omega
  cases hd : (u.extract a (a + 1)).data.toList with
  | nil => rw [hd] at hl; cases hl
  | cons x r =>
    rw [hd] at hl hb
    have : r = [] := List.eq_nil_of_length_eq_zero (by simpa using hl)
    subst this
    have : x = b := UInt8.toNat_inj.1 hb
    subst this; rfl
theorem ends_br : endsK 8 ⟨#[40]⟩ = false ∧ endsK 8 ⟨#[91]⟩ = false ∧ endsK 8 ⟨#[123]⟩ = false ∧ endsK 8 ⟨#[41]⟩ = true ∧ endsK 8 ⟨#[93]⟩ = true ∧ endsK 8 ⟨#[125]⟩ = true := by unfold endsK; decide +kernel
theorem ends_open {u : ByteArray} {a : Nat} (ha : a < u.size) (h : bt u a = 40 ∨ bt u a = 91 ∨ bt u a = 123) : endsK 8 (u.extract a (a + 1)) = false := by
  rcases h with h | h | h
  · rw [one_text ha 40 h]; exact ends_br.1
  · rw [one_text ha 91 h]; exact ends_br.2.1
  · rw [one_text ha 123 h]; exact ends_br.2.2.1
theorem ends_close {u : ByteArray} {a : Nat} (ha : a < u.size) (h : bt u a = 41 ∨ bt u a = 93 ∨ bt u a = 125) : endsK 8 (u.extract a (a + 1)) = true := by
  rcases h with h | h | h
  · rw [one_text ha 41 h]; exact ends_br.2.2.2.1
  · rw [one_text ha 93 h]; exact ends_br.2.2.2.2.1
  · rw [one_text ha 125 h]; exact ends_br.2.2.2.2.2
/-- Opening brackets end no line. -/
theorem semi_opens (u : ByteArray) (k : Nat) (hk : k ≤ u.size) (r : List Tok) (i : Nat) (hi : i ≤ k) (h : ∀ j, i ≤ j → j < k → bt u j = 40 ∨ bt u j = 91 ∨ bt u j = 123) :
    semiRec u none (oneBy i k ++ r) = oneBy i k ++ semiRec u none r := by
  by_cases hlt : i < k
  · rw [oneBy_cons hlt, List.cons_append, semiRec, if_neg (show ¬ silentK 8 = true by decide)]
    simp only []
    rw [ends_open (by omega) (h i (Nat.le_refl _) hlt), if_neg (by decide), semi_opens u k hk r (i + 1) hlt (fun j j1 j2 => h j (by omega) j2)]
    rfl
  · obtain rfl : i = k := by omega
    rw [oneBy_end]; rfl
termination_by k - i
decreasing_by omega
/-- Closing brackets, one behind the other: the last one ends the line. -/
theorem semi_closes (u : ByteArray) (i e : Nat) (hi : i ≤ u.size) (he : i = e) (h : ∀ j, i ≤ j → j < u.size → bt u j = 41 ∨ bt u j = 93 ∨ bt u j = 125) :
    semiRec u (some e) (oneBy i u.size) = oneBy i u.size ++ [(9, u.size, u.size)] := by
  by_cases hlt : i < u.size
  · rw [oneBy_cons hlt, semiRec, if_neg (show ¬ silentK 8 = true by decide)]
    simp only []
    rw [ends_close hlt (h i (Nat.le_refl _) hlt), if_pos rfl, semi_closes u (i + 1) (i + 1) hlt rfl (fun j j1 j2 => h j (by omega) j2)]
    rfl
  · subst he
    obtain rfl : i = u.size := by omega
    rw [oneBy_end]; rfl
termination_by u.size - i
decreasing_by omega
theorem ends1 (t : ByteArray) : endsK 1 t = true := by unfold endsK; rw [if_pos (Or.inl rfl)]
/-- All tokens of brackets, a letter, and brackets. -/
theorem semi_deep (u : ByteArray) (k : Nat) (hk : k < u.size) (hs : u.size ≤ 65536) (hl : bt u k = 120 ∨ bt u k = 97) (ho : ∀ j, j < k → bt u j = 40 ∨ bt u j = 91 ∨ bt u j = 123) (hc : ∀ j, k < j → j < u.size → bt u j = 41 ∨ bt u j = 93 ∨ bt u j = 125) :
    semiAll u = (oneBy 0 k ++ (1, k, k + 1) :: (oneBy (k + 1) u.size ++ [(9, u.size, u.size)]), 0, 0) := by
  obtain ⟨g1, g2⟩ := alls_deep u k hk hl (fun j j1 j2 => by have := hc j j1 j2; unfold brs; simp; omega) 0 (Nat.zero_le _) (fun j _ j2 => by have := ho j j2; unfold brs; simp; omega)
  have hsu := scanAll_of hs g2 (by rw [g1])
  rw [semiAll_rec u ⟨by rw [hsu], by rw [hsu]⟩, hsu, g1]
  simp only []
  rw [semi_opens u k (by omega) _ 0 (Nat.zero_le _) (fun j _ j2 => ho j j2), semiRec, if_neg (show ¬ silentK 1 = true by decide)]
  simp only []
  rw [ends1, if_pos rfl, semi_closes u (k + 1) (k + 1) hk rfl (fun j j1 j2 => hc j (by omega) j2)]
end Go.Proofs.YtelfobnmiphdnaaDoor
namespace Go.Proofs.YtelfobnmiphdnaaDoor
set_option linter.all false

/-- The opening brackets before a place, the last one first. -/
def desc : Nat → List Nat
  | 0 => []
  | n + 1 => n :: desc n
theorem desc_length : ∀ n, (desc n).length = n
  | 0 => rfl
  | n + 1 => by rw [desc, List.length_cons, desc_length n]
/-- The same, from a on. -/
def desca (a : Nat) : Nat → List Nat
  | 0 => []
  | n + 1 => (a + n) :: desca a n
theorem desca_length (a : Nat) : ∀ n, (desca a n).length = n
  | 0 => rfl
  | n + 1 => by rw [desca, List.length_cons, desca_length a n]
theorem bch_br {u : ByteArray} (j : Nat) : bch u (8, j, j + 1) = bt u j := by
  unfold bch; exact if_pos ⟨rfl, rfl⟩
theorem closer_open {c : Nat} (h : c = 40 ∨ c = 91 ∨ c = 123) : closer c ≠ 0 := by
  rcases h with rfl | rfl | rfl <;> decide
theorem closer_close {c : Nat} (h : c = 41 ∨ c = 93 ∨ c = 125) : ¬ closer c ≠ 0 := by
  rcases h with rfl | rfl | rfl <;> decide
theorem isClose_close {c : Nat} (h : c = 41 ∨ c = 93 ∨ c = 125) : isClose c = true := by
  rcases h with rfl | rfl | rfl <;> decide
/-- Opening brackets, as many as may be. -/
theorem go_opens (u : ByteArray) (T : List Tok) (a k : Nat) (R : List Tok) (hk : k ≤ 100) (i n : Nat) (p : List Int) (hi : n ≤ k) (h : ∀ j, a + n ≤ j → j < a + k → bt u j = 40 ∨ bt u j = 91 ∨ bt u j = 123) :
    ∃ p', nestGo u T (oneBy (a + n) (a + k) ++ R) (a + n) (desca a n) p n = nestGo u T R (a + k) (desca a k) p' k := by
  by_cases hlt : n < k
  · have hb := h (a + n) (Nat.le_refl _) (by omega)
    obtain ⟨p', h'⟩ := go_opens u T a k R hk i (n + 1) (p.set (a + n) (-1)) hlt (fun j j1 j2 => h j (by omega) j2)
    refine ⟨p', ?_⟩
    rw [oneBy_cons (by omega), List.cons_append, nestGo_cons, bch_br, if_pos (closer_open hb), if_neg (by rw [desca_length]; omega), desca_length]
    rw [show max n (n + 1) = n + 1 by omega]
    exact h'
  · obtain rfl : n = k := by omega
    rw [oneBy_end]
    exact ⟨p, rfl⟩
termination_by k - n
decreasing_by omega
/-- One more than may be. -/
theorem go_over (u : ByteArray) (T : List Tok) (a k : Nat) (R : List Tok) (hk : 100 < k) (h : ∀ j, a ≤ j → j < a + k → bt u j = 40 ∨ bt u j = 91 ∨ bt u j = 123) (p : List Int) :
    nestGo u T (oneBy a (a + k) ++ R) a [] p 0 = .error (6, ((a + 100 : Nat) : Int)) := by
  have hsp : oneBy a (a + k) = oneBy a (a + 100) ++ (8, a + 100, a + 100 + 1) :: oneBy (a + 100 + 1) (a + k) := by
    have key : ∀ d, d ≤ 100 → oneBy (a + (100 - d)) (a + k) = oneBy (a + (100 - d)) (a + 100) ++ (8, a + 100, a + 100 + 1) :: oneBy (a + 100 + 1) (a + k) := by
      intro d
      induction d with
      | zero => intro _; rw [Nat.sub_zero, oneBy_end, oneBy_cons (by omega)]; rfl
      | succ d ih =>
        intro hd
        have := ih (by omega)
        rw [oneBy_cons (i := a + (100 - (d + 1))) (n := a + k) (by omega), oneBy_cons (i := a + (100 - (d + 1))) (n := a + 100) (by omega), show a + (100 - (d + 1)) + 1 = a + (100 - d) by omega, this]
        rfl
    have := key 100 (Nat.le_refl _)
    simpa using this
  obtain ⟨p', h'⟩ := go_opens u T a 100 ((8, a + 100, a + 100 + 1) :: oneBy (a + 100 + 1) (a + k) ++ R) (Nat.le_refl _) 0 0 p (by omega) (fun j j1 j2 => h j (by omega) (by omega))
  rw [hsp, List.append_assoc]
  rw [Nat.add_zero] at h'
  rw [show (desca a 0) = [] from rfl] at h'
  rw [h', List.cons_append, nestGo_cons, bch_br, if_pos (closer_open (h (a + 100) (by omega) (by omega))), if_pos (desca_length a 100)]
/-- Their closing brackets. -/
theorem go_closes (u : ByteArray) (T : List Tok) (c d : Nat) (hc : c = 40 ∨ c = 91 ∨ c = 123) (hd : closer c = d) (n m i : Nat) (p : List Int) (hT : ∀ o, o < n → bch u (T.getD o (0, 0, 0)) = c) (hi : i + n = u.size) (h : ∀ j, i ≤ j → j < u.size → bt u j = d) :
    ∃ p', nestGo u T (oneBy i u.size ++ [(9, u.size, u.size)]) i (desca 0 n) p m = .ok (p', m) := by
  induction n generalizing i p with
  | zero =>
    obtain rfl : i = u.size := by omega
    rw [oneBy_end]
    refine ⟨p.set u.size (-1), ?_⟩
    rw [List.nil_append, nestGo_cons, if_neg (show ¬ closer (bch u (9, u.size, u.size)) ≠ 0 by unfold bch; rw [if_neg (fun g => by cases g.1)]; decide), if_neg (show ¬ isClose (bch u (9, u.size, u.size)) = true by unfold bch; rw [if_neg (fun g => by cases g.1)]; decide)]
    rw [desca, nestGo]
  | succ n ih =>
    have hdd : d = 41 ∨ d = 93 ∨ d = 125 := by rcases hc with rfl | rfl | rfl <;> subst hd <;> decide
    have hb := h i (Nat.le_refl _) (by omega)
    obtain ⟨p', h'⟩ := ih (i + 1) (((p.set i (-1)).set i ((n : Nat) : Int)).set n (i : Int)) (fun o ho => hT o (by omega)) (by omega) (fun j j1 j2 => h j (by omega) j2)
    refine ⟨p', ?_⟩
    rw [oneBy_cons (by omega), List.cons_append, nestGo_cons, bch_br, hb, if_neg (closer_close hdd), if_pos (isClose_close hdd), desca]
    simp only [Nat.zero_add]
    rw [hT n (by omega), if_pos hd]
    exact h'
theorem oneBy_getD (i n o : Nat) (R : List Tok) (ho : i + o < n) : (oneBy i n ++ R).getD o (0, 0, 0) = (8, i + o, i + o + 1) := by
  unfold oneBy
  rw [List.getD_eq_getElem?_getD, List.getElem?_append_left (by rw [List.length_map, List.length_range']; omega), List.getElem?_map, List.getElem?_range' (by omega)]
  simp
/-- Brackets, a letter, their partners. -/
theorem nest_deep (u : ByteArray) (k c d : Nat) (hsz : u.size = k + 1 + k) (hk2 : k ≤ 1000) (hl : bt u k = 120) (hc : c = 40 ∨ c = 91 ∨ c = 123) (hd : closer c = d) (ho : ∀ j, j < k → bt u j = c) (hcl : ∀ j, k < j → j < u.size → bt u j = d) :
    (100 < k → nestAll u = ([], [], 0, 6, 100)) ∧ (k ≤ 100 → ∃ l p, nestAll u = (l, p, (k : Int), 0, 0)) := by
  have hdd : d = 41 ∨ d = 93 ∨ d = 125 := by rcases hc with rfl | rfl | rfl <;> subst hd <;> decide
  have hsm := semi_deep u k (by omega) (by omega) (Or.inl hl) (fun j hj => by rw [ho j hj]; exact hc) (fun j j1 j2 => by rw [hcl j j1 j2]; exact hdd)
  refine ⟨fun hk => ?_, fun hk => ?_⟩
  · unfold nestAll
    rw [hsm]
    simp only []
    rw [if_pos ⟨trivial, trivial⟩]
    have := fun T R p => go_over u T 0 k R hk (fun j _ j2 => by rw [ho j (by omega)]; exact hc) p
    simp only [Nat.zero_add] at this
    rw [this]
    rfl
  · unfold nestAll
    rw [hsm]
    simp only []
    rw [if_pos ⟨trivial, trivial⟩]
    generalize hT : oneBy 0 k ++ (1, k, k + 1) :: (oneBy (k + 1) u.size ++ [(9, u.size, u.size)]) = T
    obtain ⟨p1, h1⟩ := go_opens u T 0 k ((1, k, k + 1) :: (oneBy (k + 1) u.size ++ [(9, u.size, u.size)])) hk 0 0 (List.replicate T.length 0) (by omega) (fun j _ j2 => by rw [ho j (by omega)]; exact hc)
    simp only [Nat.zero_add, Nat.add_zero] at h1
    rw [show desca 0 0 = [] from rfl] at h1
    obtain ⟨p2, h2⟩ := go_closes u T c d hc hd k k (k + 1) (p1.set k (-1)) (fun o hoo => by
      rw [← hT, oneBy_getD 0 k o _ (by omega), bch_br, Nat.zero_add, ho o hoo]) (by omega) (fun j j1 j2 => hcl j (by omega) j2)
    have h3 : nestGo u T (oneBy 0 k ++ (1, k, k + 1) :: (oneBy (k + 1) u.size ++ [(9, u.size, u.size)])) 0 [] (List.replicate T.length 0) 0 = .ok (p2, k) := by
      rw [h1, nestGo_cons, if_neg (show ¬ closer (bch u (1, k, k + 1)) ≠ 0 by unfold bch; rw [if_neg (fun g => by cases g.1)]; decide), if_neg (show ¬ isClose (bch u (1, k, k + 1)) = true by unfold bch; rw [if_neg (fun g => by cases g.1)]; decide)]
      exact h2
    rw [hT] at h3
    rw [h3]
    exact ⟨_, _, rfl⟩
/-- A letter and opening brackets. -/
theorem nest_open (u : ByteArray) (k : Nat) (hsz : u.size = 1 + k) (hk2 : k ≤ 1000) (hl : bt u 0 = 97) (ho : ∀ j, 1 ≤ j → j < u.size → bt u j = 40 ∨ bt u j = 91 ∨ bt u j = 123) :
    (100 < k → nestAll u = ([], [], 0, 6, 101)) ∧ (0 < k → k ≤ 100 → nestAll u = ([], [], 0, 5, (k : Int))) ∧ (k = 0 → ∃ l p, nestAll u = (l, p, 0, 0, 0)) := by
  obtain ⟨g1, g2⟩ := alls_deep u 0 (by omega) (Or.inr hl) (fun j j1 j2 => by have := ho j (by omega) j2; unfold brs; simp; omega) 0 (Nat.le_refl _) (fun j _ j2 => by omega)
  have hsu := scanAll_of (by omega) g2 (by rw [g1])
  have hrec := semiAll_rec u ⟨by rw [hsu], by rw [hsu]⟩
  rw [hsu, g1, oneBy_end] at hrec
  simp only [List.nil_append, Nat.zero_add] at hrec
  rw [semiRec, if_neg (show ¬ silentK 1 = true by decide)] at hrec
  simp only [] at hrec
  rw [ends1, if_pos rfl] at hrec
  have n1 : ∀ j, ¬ closer (bch u (1, j, j + 1)) ≠ 0 := fun j => by unfold bch; rw [if_neg (fun g => by cases g.1)]; decide
  have n2 : ∀ j, ¬ isClose (bch u (1, j, j + 1)) = true := fun j => by unfold bch; rw [if_neg (fun g => by cases g.1)]; decide
  have n3 : ∀ j, ¬ closer (bch u (9, j, j)) ≠ 0 := fun j => by unfold bch; rw [if_neg (fun g => by cases g.1)]; decide
  have n4 : ∀ j, ¬ isClose (bch u (9, j, j)) = true := fun j => by unfold bch; rw [if_neg (fun g => by cases g.1)]; decide
  rcases Nat.eq_zero_or_pos k with hk0 | hk0
  · subst hk0
    refine ⟨fun h => by omega, fun h => by omega, fun _ => ?_⟩
    have hb : oneBy 1 u.size = [] := by rw [hsz]; exact oneBy_end 1
    rw [hb, semiRec, show flushL (some 1) = [(9, 1, 1)] from rfl] at hrec
    unfold nestAll
    rw [hrec]
    simp only []
    rw [if_pos ⟨trivial, trivial⟩]
    rw [nestGo_cons, if_neg (n1 0), if_neg (n2 0), nestGo_cons, if_neg (n3 1), if_neg (n4 1), nestGo]
    exact ⟨_, _, rfl⟩
  · have hb : semiRec u (some 1) (oneBy 1 u.size) = oneBy 1 u.size := by
      have h2 := semi_opens u u.size (Nat.le_refl _) [] 2 (by omega) (fun j j1 j2 => ho j (by omega) j2)
      rw [List.append_nil, semiRec, show flushL none = [] from rfl, List.append_nil] at h2
      rw [oneBy_cons (by omega), semiRec, if_neg (show ¬ silentK 8 = true by decide)]
      simp only []
      rw [ends_open (by omega) (ho 1 (Nat.le_refl _) (by omega)), if_neg (by decide), h2]
    rw [hb] at hrec
    refine ⟨fun hk => ?_, fun _ hk => ?_, fun h => by omega⟩
    · unfold nestAll
      rw [hrec]
      simp only []
      rw [if_pos ⟨trivial, trivial⟩]
      generalize hT : ((1 : Int), 0, 1) :: oneBy 1 u.size = T
      have h1 := fun T p => go_over u T 1 k [] hk (fun j j1 j2 => ho j j1 (by omega)) p
      rw [← hsz] at h1
      simp only [List.append_nil] at h1
      have h3 : nestGo u T ((1, 0, 1) :: oneBy 1 u.size) 0 [] (List.replicate T.length 0) 0 = .error (6, 101) := by
        rw [nestGo_cons, if_neg (n1 0), if_neg (n2 0), h1]
        rfl
      rw [hT] at h3
      rw [h3]
    · unfold nestAll
      rw [hrec]
      simp only []
      rw [if_pos ⟨trivial, trivial⟩]
      generalize hT : ((1 : Int), 0, 1) :: oneBy 1 u.size = T
      obtain ⟨p1, h1⟩ := go_opens u T 1 k [] hk 0 0 ((List.replicate T.length 0).set 0 (-1)) (by omega) (fun j j1 j2 => ho j (by omega) (by omega))
      rw [← hsz, show desca 1 0 = [] from rfl] at h1
      simp only [List.append_nil, Nat.add_zero] at h1
      have h3 : nestGo u T ((1, 0, 1) :: oneBy 1 u.size) 0 [] (List.replicate T.length 0) 0 = .error (5, (k : Int)) := by
        rw [nestGo_cons, if_neg (n1 0), if_neg (n2 0)]
        rw [show (0 + 1) = 1 from rfl, h1]
        obtain ⟨k', rfl⟩ : ∃ k', k = k' + 1 := ⟨k - 1, by omega⟩
        rw [desca, nestGo, ← hT]
        have := oneBy_getD 1 u.size k' [] (by omega)
        rw [List.append_nil] at this
        rw [show 1 + k' = k' + 1 by omega, List.getD_cons_succ, this]
        simp only []
        rw [show 1 + k' = k' + 1 by omega]
      rw [hT] at h3
      rw [h3]
end Go.Proofs.YtelfobnmiphdnaaDoor
