/- Rows of brackets, in plain Lean: each bracket is a lexeme by itself, and so is a letter between them. -/
import Derived.Test.YtelfobnmiphdnaaGreatDoorWrapP
import Derived.Test.YtelfobnmiphdnaaGreatDoorNestP
import Derived.Test.YtelfobnmiphdnaaGreatDoorNest
import Derived.Deep.QuietTactic
import Derived.BigQuiet
import Derived.Test.YtelfobnmiphdnaaGreatDoorOfW
namespace Go.Proofs.YtelfobnmiphdnaaGreatDoor
set_option linter.all false
attribute [local irreducible] byts

def brs : List Nat := [40, 41, 91, 93, 123, 125]
theorem br_head3 : ∀ m ∈ signs3, m.headD 0 ∉ brs := by decide +kernel
theorem br_head2 : ∀ m ∈ signs2, m.headD 0 ∉ brs := by decide +kernel
theorem br_head1 : ∀ c ∈ brs, signs1.contains [c] = true := by decide +kernel
theorem sign_br {l : List Nat} {c : Nat} (hc : c ∈ brs) (h : l.headD 0 = c) (hl : 0 < l.length) : signL l = 1 := by
  unfold signL
  have n3 : ¬ signs3.contains (l.take 3) = true := fun g => by
    have := br_head3 _ (List.contains_iff_mem.1 g)
    rw [headD_take _ _ (by omega), h] at this
    exact this hc
  have n2 : ¬ signs2.contains (l.take 2) = true := fun g => by
    have := br_head2 _ (List.contains_iff_mem.1 g)
    rw [headD_take _ _ (by omega), h] at this
    exact this hc
  have y1 : signs1.contains (l.take 1) = true := by
    cases l with
    | nil => simp at hl
    | cons x r =>
      have hx : x = c := h
      subst hx
      show signs1.contains [x] = true
      exact br_head1 x hc
  rw [if_neg n3, if_neg n2, if_pos y1]
theorem br_facts : ∀ c ∈ brs, c < 128 ∧ c ≠ 65279 ∧ letter ((c : Nat) : Int) = false ∧ digit ((c : Nat) : Int) = false ∧ blank ((c : Nat) : Int) = false ∧ c ≠ 47 ∧ c ≠ 59 ∧ c ≠ 46 ∧ c ≠ 0 ∧ ¬ dval c < 10 ∧ isMark c = false := by
  unfold letter digit blank; decide +kernel
theorem lex_br {u : ByteArray} {a : Nat} (ha : a < u.size) (h : bt u a ∈ brs) : lex u a = (8, ((a + 1 : Nat) : Int)) := by
  obtain ⟨f1, f2, f3, _, f5, f6, f7, f8, f9, f10, f11⟩ := br_facts _ h
  have hr := rd_ascii ha f1
  have hs : signL (byts (u.extract a u.size)) = 1 := sign_br h (byts_headD a ha) (by rw [byts_length, ByteArray.size_extract]; omega)
  have hnb : numBegins u a = false := by
    unfold numBegins
    rw [decide_eq_false f10, decide_eq_false f8]; simp
  have hns : numScan u (a : Nat) = (0, 0, 15) := by
    unfold numScan
    rw [Int.toNat_natCast, if_neg (fun g => by rw [hnb] at g; cases g.2)]
  have hbg : (begun u (a : Nat)).2.2.2 = 15 := by rw [begun_no (i := a) f11]
  have h1 : (rd u a).1 = bt u a := by rw [hr]
  exact lex_sign_at (n := 1) (by rw [h1]; exact f2) (by rw [h1, f5]; decide) (fun g => f6 g.2.1) (fun g => f6 g.2.1) (by rw [h1, f3]; decide) f7 (by rw [hns]; decide) (by rw [hbg]; decide) hs (by omega)
theorem word_one : word ⟨#[120]⟩ = false ∧ word ⟨#[97]⟩ = false := by unfold word; decide +kernel
theorem let_facts : ∀ c ∈ [120, 97], c < 128 ∧ c ≠ 65279 ∧ letter ((c : Nat) : Int) = true ∧ blank ((c : Nat) : Int) = false ∧ c ≠ 47 ∧ c ≠ 0 := by
  unfold letter blank; decide +kernel
/-- A letter before a bracket or the text's end. -/
theorem lex_let {u : ByteArray} {a : Nat} (ha : a < u.size) (h : bt u a = 120 ∨ bt u a = 97) (hn : a + 1 = u.size ∨ (a + 1 < u.size ∧ bt u (a + 1) ∈ brs)) : lex u a = (1, ((a + 1 : Nat) : Int)) := by
  obtain ⟨f1, f2, f3, f5, f6, f9⟩ := let_facts (bt u a) (by simp; omega)
  have hr := rd_ascii ha f1
  have hw : wordTo u a = a + 1 := by
    have hin : inWord u a = true := by unfold inWord; rw [hr]; simp [f3]
    rw [wordTo, dif_pos ⟨ha, hin⟩, hr]
    show wordTo u (a + 1) = a + 1
    rw [wordTo, dif_neg]
    rintro ⟨g1, g2⟩
    rcases hn with hn | ⟨_, hn⟩
    · omega
    · obtain ⟨e1, _, e3, e4, _⟩ := br_facts _ hn
      unfold inWord at g2
      rw [rd_ascii g1 e1] at g2
      simp [e3, e4] at g2
  have hx : word (u.extract a (a + 1)) = false := by
    have hp : u.extract a (a + 1) = ⟨#[(u.extract a (a + 1)).get! 0]⟩ := by
      have hz := piece_size (s := u) (i := a) (e := a + 1) (by omega) ha
      apply ByteArray.ext
      apply Array.ext'
      have hl : (u.extract a (a + 1)).data.toList.length = 1 := by rw [← size_data, hz]; omega
      cases hd : (u.extract a (a + 1)).data.toList with
      | nil => rw [hd] at hl; cases hl
      | cons x r =>
        rw [hd] at hl
        have : r = [] := List.eq_nil_of_length_eq_zero (by simpa using hl)
        subst this
        rw [get!_list, hd]; rfl
    have hb : ((u.extract a (a + 1)).get! 0).toNat = bt u a := by
      have := piece_bt (s := u) (i := a) (e := a + 1) (j := 0) (by omega) ha
      rw [Nat.add_zero] at this; exact this
    rw [hp]
    rcases h with h | h
    · have : (u.extract a (a + 1)).get! 0 = 120 := UInt8.toNat_inj.1 (by rw [hb, h]; rfl)
      rw [this]; exact word_one.1
    · have : (u.extract a (a + 1)).get! 0 = 97 := UInt8.toNat_inj.1 (by rw [hb, h]; rfl)
      rw [this]; exact word_one.2
  have h1 : (rd u a).1 = bt u a := by rw [hr]
  unfold lex
  rw [h1, if_neg f2, if_neg (by rw [f5]; decide), if_neg (fun g => f6 g.2.1), if_neg (fun g => f6 g.2.1), if_pos f3, hw, hx]
  rfl
/-- From a place on only brackets: each is a lexeme. -/
def oneBy (i n : Nat) : List Tok := (List.range' i (n - i)).map fun j => ((8 : Int), j, j + 1)
theorem oneBy_end (n : Nat) : oneBy n n = [] := by unfold oneBy; rw [Nat.sub_self]; rfl
theorem oneBy_cons {i n : Nat} (h : i < n) : oneBy i n = (8, i, i + 1) :: oneBy (i + 1) n := by
  unfold oneBy
  obtain ⟨d, hd⟩ : ∃ d, n - i = d + 1 := ⟨n - i - 1, by omega⟩
  rw [hd, show n - (i + 1) = d by omega, List.range'_succ]; rfl
theorem alls_brs (u : ByteArray) (i : Nat) (hi : i ≤ u.size) (h : ∀ j, i ≤ j → j < u.size → bt u j ∈ brs) : alls u i = (oneBy i u.size, none) ∧ cleanZ u i < 0 := by
  by_cases hlt : i < u.size
  · have hb := h i (Nat.le_refl _) hlt
    obtain ⟨f1, _, _, _, _, _, _, _, f9, _⟩ := br_facts _ hb
    obtain ⟨g1, g2⟩ := alls_brs u (i + 1) hlt (fun j j1 j2 => h j (by omega) j2)
    rw [alls_step hlt (lex_br hlt hb) (by decide), g1, oneBy_cons hlt]
    exact ⟨rfl, clean_ascii hlt f1 f9 g2⟩
  · obtain rfl : i = u.size := by omega
    rw [alls_end hlt, oneBy_end]
    exact ⟨rfl, clean_size u⟩
termination_by u.size - i
decreasing_by omega
/-- Brackets up to a letter, and brackets behind it. -/
theorem alls_deep (u : ByteArray) (k : Nat) (hk : k < u.size) (hl : bt u k = 120 ∨ bt u k = 97) (hr : ∀ j, k < j → j < u.size → bt u j ∈ brs) (i : Nat) (hi : i ≤ k) (h : ∀ j, i ≤ j → j < k → bt u j ∈ brs) :
    alls u i = (oneBy i k ++ (1, k, k + 1) :: oneBy (k + 1) u.size, none) ∧ cleanZ u i < 0 := by
  by_cases hlt : i < k
  · have hb := h i (Nat.le_refl _) hlt
    obtain ⟨f1, _, _, _, _, _, _, _, f9, _⟩ := br_facts _ hb
    obtain ⟨g1, g2⟩ := alls_deep u k hk hl hr (i + 1) hlt (fun j j1 j2 => h j (by omega) j2)
    rw [alls_step (by omega) (lex_br (by omega) hb) (by decide), g1, oneBy_cons hlt]
    exact ⟨rfl, clean_ascii (by omega) f1 f9 g2⟩
  · obtain rfl : i = k := by omega
    obtain ⟨g1, g2⟩ := alls_brs u (i + 1) hk (fun j j1 j2 => hr j (by omega) j2)
    have hn : i + 1 = u.size ∨ (i + 1 < u.size ∧ bt u (i + 1) ∈ brs) := by
      rcases Nat.lt_or_ge (i + 1) u.size with q | q
      · exact Or.inr ⟨q, hr _ (by omega) q⟩
      · exact Or.inl (by omega)
    rw [alls_step hk (lex_let hk hl hn) (by decide), g1, oneBy_end]
    exact ⟨rfl, clean_ascii hk (by omega) (by omega) g2⟩
termination_by k - i
decreasing_by omega
theorem one_text {u : ByteArray} {a : Nat} (ha : a < u.size) (b : UInt8) (h : bt u a = b.toNat) : u.extract a (a + 1) = ⟨#[b]⟩ := by
  have hz := piece_size (s := u) (i := a) (e := a + 1) (by omega) ha
  have hb := piece_bt (s := u) (i := a) (e := a + 1) (j := 0) (by omega) ha
  rw [show a + 0 = a from rfl, h] at hb
  unfold bt at hb
  rw [get!_list] at hb
  apply ByteArray.ext
  apply Array.ext'
  have hl : (u.extract a (a + 1)).data.toList.length = 1 := by rw [← size_data, hz]; omega
  cases hd : (u.extract a (a + 1)).data.toList with
  | nil => rw [hd] at hl; cases hl
  | cons x r =>
    rw [hd] at hl hb
    have : r = [] := List.eq_nil_of_length_eq_zero (by simpa using hl)
    subst this
    have : x = b := UInt8.toNat_inj.1 hb
    subst this; rfl
theorem ends_br : endsK 8 ⟨#[40]⟩ = false ∧ endsK 8 ⟨#[91]⟩ = false ∧ endsK 8 ⟨#[123]⟩ = false ∧ endsK 8 ⟨#[41]⟩ = true ∧ endsK 8 ⟨#[93]⟩ = true ∧ endsK 8 ⟨#[125]⟩ = true := by unfold endsK; decide +kernel
theorem ends_open {u : ByteArray} {a : Nat} (ha : a < u.size) (h : bt u a = 40 ∨ bt u a = 91 ∨ bt u a = 123) : endsK 8 (u.extract a (a + 1)) = false := by
  rcases h with h | h | h
  · rw [one_text ha 40 h]; exact ends_br.1
  · rw [one_text ha 91 h]; exact ends_br.2.1
  · rw [one_text ha 123 h]; exact ends_br.2.2.1
theorem ends_close {u : ByteArray} {a : Nat} (ha : a < u.size) (h : bt u a = 41 ∨ bt u a = 93 ∨ bt u a = 125) : endsK 8 (u.extract a (a + 1)) = true := by
  rcases h with h | h | h
  · rw [one_text ha 41 h]; exact ends_br.2.2.2.1
  · rw [one_text ha 93 h]; exact ends_br.2.2.2.2.1
  · rw [one_text ha 125 h]; exact ends_br.2.2.2.2.2
/-- Opening brackets end no line. -/
theorem semi_opens (u : ByteArray) (k : Nat) (hk : k ≤ u.size) (r : List Tok) (i : Nat) (hi : i ≤ k) (h : ∀ j, i ≤ j → j < k → bt u j = 40 ∨ bt u j = 91 ∨ bt u j = 123) :
    semiRec u none (oneBy i k ++ r) = oneBy i k ++ semiRec u none r := by
  by_cases hlt : i < k
  · rw [oneBy_cons hlt, List.cons_append, semiRec, if_neg (show ¬ silentK 8 = true by decide)]
    simp only []
    rw [ends_open (by omega) (h i (Nat.le_refl _) hlt), if_neg (by decide), semi_opens u k hk r (i + 1) hlt (fun j j1 j2 => h j (by omega) j2)]
    rfl
  · obtain rfl : i = k := by omega
    rw [oneBy_end]; rfl
termination_by k - i
decreasing_by omega
/-- Closing brackets, one behind the other: the last one ends the line. -/
theorem semi_closes (u : ByteArray) (i e : Nat) (hi : i ≤ u.size) (he : i = e) (h : ∀ j, i ≤ j → j < u.size → bt u j = 41 ∨ bt u j = 93 ∨ bt u j = 125) :
    semiRec u (some e) (oneBy i u.size) = oneBy i u.size ++ [(9, u.size, u.size)] := by
  by_cases hlt : i < u.size
  · rw [oneBy_cons hlt, semiRec, if_neg (show ¬ silentK 8 = true by decide)]
    simp only []
    rw [ends_close hlt (h i (Nat.le_refl _) hlt), if_pos rfl, semi_closes u (i + 1) (i + 1) hlt rfl (fun j j1 j2 => h j (by omega) j2)]
    rfl
  · subst he
    obtain rfl : i = u.size := by omega
    rw [oneBy_end]; rfl
termination_by u.size - i
decreasing_by omega
theorem ends1 (t : ByteArray) : endsK 1 t = true := by unfold endsK; rw [if_pos (Or.inl rfl)]
/-- All tokens of brackets, a letter, and brackets. -/
theorem semi_deep (u : ByteArray) (k : Nat) (hk : k < u.size) (hs : u.size ≤ 65536) (hl : bt u k = 120 ∨ bt u k = 97) (ho : ∀ j, j < k → bt u j = 40 ∨ bt u j = 91 ∨ bt u j = 123) (hc : ∀ j, k < j → j < u.size → bt u j = 41 ∨ bt u j = 93 ∨ bt u j = 125) :
    semiAll u = (oneBy 0 k ++ (1, k, k + 1) :: (oneBy (k + 1) u.size ++ [(9, u.size, u.size)]), 0, 0) := by
  obtain ⟨g1, g2⟩ := alls_deep u k hk hl (fun j j1 j2 => by have := hc j j1 j2; unfold brs; simp; omega) 0 (Nat.zero_le _) (fun j _ j2 => by have := ho j j2; unfold brs; simp; omega)
  have hsu := scanAll_of hs g2 (by rw [g1])
  rw [semiAll_rec u ⟨by rw [hsu], by rw [hsu]⟩, hsu, g1]
  simp only []
  rw [semi_opens u k (by omega) _ 0 (Nat.zero_le _) (fun j _ j2 => ho j j2), semiRec, if_neg (show ¬ silentK 1 = true by decide)]
  simp only []
  rw [ends1, if_pos rfl, semi_closes u (k + 1) (k + 1) hk rfl (fun j j1 j2 => hc j (by omega) j2)]
end Go.Proofs.YtelfobnmiphdnaaGreatDoor
namespace Go.Proofs.YtelfobnmiphdnaaGreatDoor
set_option linter.all false

/-- The opening brackets before a place, the last one first. -/
def desc : Nat → List Nat
  | 0 => []
  | n + 1 => n :: desc n
theorem desc_length : ∀ n, (desc n).length = n
  | 0 => rfl
  | n + 1 => by rw [desc, List.length_cons, desc_length n]
/-- The same, from a on. -/
def desca (a : Nat) : Nat → List Nat
  | 0 => []
  | n + 1 => (a + n) :: desca a n
theorem desca_length (a : Nat) : ∀ n, (desca a n).length = n
  | 0 => rfl
  | n + 1 => by rw [desca, List.length_cons, desca_length a n]
theorem bch_br {u : ByteArray} (j : Nat) : bch u (8, j, j + 1) = bt u j := by
  unfold bch; exact if_pos ⟨rfl, rfl⟩
theorem closer_open {c : Nat} (h : c = 40 ∨ c = 91 ∨ c = 123) : closer c ≠ 0 := by
  rcases h with rfl | rfl | rfl <;> decide
theorem closer_close {c : Nat} (h : c = 41 ∨ c = 93 ∨ c = 125) : ¬ closer c ≠ 0 := by
  rcases h with rfl | rfl | rfl <;> decide
theorem isClose_close {c : Nat} (h : c = 41 ∨ c = 93 ∨ c = 125) : isClose c = true := by
  rcases h with rfl | rfl | rfl <;> decide
/-- Opening brackets, as many as may be. -/
theorem go_opens (u : ByteArray) (T : List Tok) (a k : Nat) (R : List Tok) (hk : k ≤ 100) (i n : Nat) (p : List Int) (hi : n ≤ k) (h : ∀ j, a + n ≤ j → j < a + k → bt u j = 40 ∨ bt u j = 91 ∨ bt u j = 123) :
    ∃ p', nestGo u T (oneBy (a + n) (a + k) ++ R) (a + n) (desca a n) p n = nestGo u T R (a + k) (desca a k) p' k := by
  by_cases hlt : n < k
  · have hb := h (a + n) (Nat.le_refl _) (by omega)
    obtain ⟨p', h'⟩ := go_opens u T a k R hk i (n + 1) (p.set (a + n) (-1)) hlt (fun j j1 j2 => h j (by omega) j2)
    refine ⟨p', ?_⟩
    rw [oneBy_cons (by omega), List.cons_append, nestGo_cons, bch_br, if_pos (closer_open hb), if_neg (by rw [desca_length]; omega), desca_length]
    rw [show max n (n + 1) = n + 1 by omega]
    exact h'
  · obtain rfl : n = k := by omega
    rw [oneBy_end]
    exact ⟨p, rfl⟩
termination_by k - n
decreasing_by omega
/-- One more than may be. -/
theorem go_over (u : ByteArray) (T : List Tok) (a k : Nat) (R : List Tok) (hk : 100 < k) (h : ∀ j, a ≤ j → j < a + k → bt u j = 40 ∨ bt u j = 91 ∨ bt u j = 123) (p : List Int) :
    nestGo u T (oneBy a (a + k) ++ R) a [] p 0 = .error (6, ((a + 100 : Nat) : Int)) := by
  have hsp : oneBy a (a + k) = oneBy a (a + 100) ++ (8, a + 100, a + 100 + 1) :: oneBy (a + 100 + 1) (a + k) := by
    have key : ∀ d, d ≤ 100 → oneBy (a + (100 - d)) (a + k) = oneBy (a + (100 - d)) (a + 100) ++ (8, a + 100, a + 100 + 1) :: oneBy (a + 100 + 1) (a + k) := by
      intro d
      induction d with
      | zero => intro _; rw [Nat.sub_zero, oneBy_end, oneBy_cons (by omega)]; rfl
      | succ d ih =>
        intro hd
        have := ih (by omega)
        rw [oneBy_cons (i := a + (100 - (d + 1))) (n := a + k) (by omega), oneBy_cons (i := a + (100 - (d + 1))) (n := a + 100) (by omega), show a + (100 - (d + 1)) + 1 = a + (100 - d) by omega, this]
        rfl
    have := key 100 (Nat.le_refl _)
    simpa using this
  obtain ⟨p', h'⟩ := go_opens u T a 100 ((8, a + 100, a + 100 + 1) :: oneBy (a + 100 + 1) (a + k) ++ R) (Nat.le_refl _) 0 0 p (by omega) (fun j j1 j2 => h j (by omega) (by omega))
  rw [hsp, List.append_assoc]
  rw [Nat.add_zero] at h'
  rw [show (desca a 0) = [] from rfl] at h'
  rw [h', List.cons_append, nestGo_cons, bch_br, if_pos (closer_open (h (a + 100) (by omega) (by omega))), if_pos (desca_length a 100)]
/-- Their closing brackets. -/
theorem go_closes (u : ByteArray) (T : List Tok) (c d : Nat) (hc : c = 40 ∨ c = 91 ∨ c = 123) (hd : closer c = d) (n m i : Nat) (p : List Int) (hT : ∀ o, o < n → bch u (T.getD o (0, 0, 0)) = c) (hi : i + n = u.size) (h : ∀ j, i ≤ j → j < u.size → bt u j = d) :
    ∃ p', nestGo u T (oneBy i u.size ++ [(9, u.size, u.size)]) i (desca 0 n) p m = .ok (p', m) := by
  induction n generalizing i p with
  | zero =>
    obtain rfl : i = u.size := by omega
    rw [oneBy_end]
    refine ⟨p.set u.size (-1), ?_⟩
    rw [List.nil_append, nestGo_cons, if_neg (show ¬ closer (bch u (9, u.size, u.size)) ≠ 0 by unfold bch; rw [if_neg (fun g => by cases g.1)]; decide), if_neg (show ¬ isClose (bch u (9, u.size, u.size)) = true by unfold bch; rw [if_neg (fun g => by cases g.1)]; decide)]
    rw [desca, nestGo]
  | succ n ih =>
    have hdd : d = 41 ∨ d = 93 ∨ d = 125 := by rcases hc with rfl | rfl | rfl <;> subst hd <;> decide
    have hb := h i (Nat.le_refl _) (by omega)
    obtain ⟨p', h'⟩ := ih (i + 1) (((p.set i (-1)).set i ((n : Nat) : Int)).set n (i : Int)) (fun o ho => hT o (by omega)) (by omega) (fun j j1 j2 => h j (by omega) j2)
    refine ⟨p', ?_⟩
    rw [oneBy_cons (by omega), List.cons_append, nestGo_cons, bch_br, hb, if_neg (closer_close hdd), if_pos (isClose_close hdd), desca]
    simp only [Nat.zero_add]
    rw [hT n (by omega), if_pos hd]
    exact h'
theorem oneBy_getD (i n o : Nat) (R : List Tok) (ho : i + o < n) : (oneBy i n ++ R).getD o (0, 0, 0) = (8, i + o, i + o + 1) := by
  unfold oneBy
  rw [List.getD_eq_getElem?_getD, List.getElem?_append_left (by rw [List.length_map, List.length_range']; omega), List.getElem?_map, List.getElem?_range' (by omega)]
  simp
/-- Brackets, a letter, their partners. -/
theorem nest_deep (u : ByteArray) (k c d : Nat) (hsz : u.size = k + 1 + k) (hk2 : k ≤ 1000) (hl : bt u k = 120) (hc : c = 40 ∨ c = 91 ∨ c = 123) (hd : closer c = d) (ho : ∀ j, j < k → bt u j = c) (hcl : ∀ j, k < j → j < u.size → bt u j = d) :
    (100 < k → nestAll u = ([], [], 0, 6, 100)) ∧ (k ≤ 100 → ∃ l p, nestAll u = (l, p, (k : Int), 0, 0)) := by
  have hdd : d = 41 ∨ d = 93 ∨ d = 125 := by rcases hc with rfl | rfl | rfl <;> subst hd <;> decide
  have hsm := semi_deep u k (by omega) (by omega) (Or.inl hl) (fun j hj => by rw [ho j hj]; exact hc) (fun j j1 j2 => by rw [hcl j j1 j2]; exact hdd)
  refine ⟨fun hk => ?_, fun hk => ?_⟩
  · unfold nestAll
    rw [hsm]
    simp only []
    rw [if_pos ⟨trivial, trivial⟩]
    have := fun T R p => go_over u T 0 k R hk (fun j _ j2 => by rw [ho j (by omega)]; exact hc) p
    simp only [Nat.zero_add] at this
    rw [this]
    rfl
  · unfold nestAll
    rw [hsm]
    simp only []
    rw [if_pos ⟨trivial, trivial⟩]
    generalize hT : oneBy 0 k ++ (1, k, k + 1) :: (oneBy (k + 1) u.size ++ [(9, u.size, u.size)]) = T
    obtain ⟨p1, h1⟩ := go_opens u T 0 k ((1, k, k + 1) :: (oneBy (k + 1) u.size ++ [(9, u.size, u.size)])) hk 0 0 (List.replicate T.length 0) (by omega) (fun j _ j2 => by rw [ho j (by omega)]; exact hc)
    simp only [Nat.zero_add, Nat.add_zero] at h1
    rw [show desca 0 0 = [] from rfl] at h1
    obtain ⟨p2, h2⟩ := go_closes u T c d hc hd k k (k + 1) (p1.set k (-1)) (fun o hoo => by
      rw [← hT, oneBy_getD 0 k o _ (by omega), bch_br, Nat.zero_add, ho o hoo]) (by omega) (fun j j1 j2 => hcl j (by omega) j2)
    have h3 : nestGo u T (oneBy 0 k ++ (1, k, k + 1) :: (oneBy (k + 1) u.size ++ [(9, u.size, u.size)])) 0 [] (List.replicate T.length 0) 0 = .ok (p2, k) := by
      rw [h1, nestGo_cons, if_neg (show ¬ closer (bch u (1, k, k + 1)) ≠ 0 by unfold bch; rw [if_neg (fun g => by cases g.1)]; decide), if_neg (show ¬ isClose (bch u (1, k, k + 1)) = true by unfold bch; rw [if_neg (fun g => by cases g.1)]; decide)]
      exact h2
    rw [hT] at h3
    rw [h3]
    exact ⟨_, _, rfl⟩
/-- A letter and opening brackets. -/
theorem nest_open (u : ByteArray) (k : Nat) (hsz : u.size = 1 + k) (hk2 : k ≤ 1000) (hl : bt u 0 = 97) (ho : ∀ j, 1 ≤ j → j < u.size → bt u j = 40 ∨ bt u j = 91 ∨ bt u j = 123) :
    (100 < k → nestAll u = ([], [], 0, 6, 101)) ∧ (0 < k → k ≤ 100 → nestAll u = ([], [], 0, 5, (k : Int))) ∧ (k = 0 → ∃ l p, nestAll u = (l, p, 0, 0, 0)) := by
  obtain ⟨g1, g2⟩ := alls_deep u 0 (by omega) (Or.inr hl) (fun j j1 j2 => by have := ho j (by omega) j2; unfold brs; simp; omega) 0 (Nat.le_refl _) (fun j _ j2 => by omega)
  have hsu := scanAll_of (by omega) g2 (by rw [g1])
  have hrec := semiAll_rec u ⟨by rw [hsu], by rw [hsu]⟩
  rw [hsu, g1, oneBy_end] at hrec
  simp only [List.nil_append, Nat.zero_add] at hrec
  rw [semiRec, if_neg (show ¬ silentK 1 = true by decide)] at hrec
  simp only [] at hrec
  rw [ends1, if_pos rfl] at hrec
  have n1 : ∀ j, ¬ closer (bch u (1, j, j + 1)) ≠ 0 := fun j => by unfold bch; rw [if_neg (fun g => by cases g.1)]; decide
  have n2 : ∀ j, ¬ isClose (bch u (1, j, j + 1)) = true := fun j => by unfold bch; rw [if_neg (fun g => by cases g.1)]; decide
  have n3 : ∀ j, ¬ closer (bch u (9, j, j)) ≠ 0 := fun j => by unfold bch; rw [if_neg (fun g => by cases g.1)]; decide
  have n4 : ∀ j, ¬ isClose (bch u (9, j, j)) = true := fun j => by unfold bch; rw [if_neg (fun g => by cases g.1)]; decide
  rcases Nat.eq_zero_or_pos k with hk0 | hk0
  · subst hk0
    refine ⟨fun h => by omega, fun h => by omega, fun _ => ?_⟩
    have hb : oneBy 1 u.size = [] := by rw [hsz]; exact oneBy_end 1
    rw [hb, semiRec, show flushL (some 1) = [(9, 1, 1)] from rfl] at hrec
    unfold nestAll
    rw [hrec]
    simp only []
    rw [if_pos ⟨trivial, trivial⟩]
    rw [nestGo_cons, if_neg (n1 0), if_neg (n2 0), nestGo_cons, if_neg (n3 1), if_neg (n4 1), nestGo]
    exact ⟨_, _, rfl⟩
  · have hb : semiRec u (some 1) (oneBy 1 u.size) = oneBy 1 u.size := by
      have h2 := semi_opens u u.size (Nat.le_refl _) [] 2 (by omega) (fun j j1 j2 => ho j (by omega) j2)
      rw [List.append_nil, semiRec, show flushL none = [] from rfl, List.append_nil] at h2
      rw [oneBy_cons (by omega), semiRec, if_neg (show ¬ silentK 8 = true by decide)]
      simp only []
      rw [ends_open (by omega) (ho 1 (Nat.le_refl _) (by omega)), if_neg (by decide), h2]
    rw [hb] at hrec
    refine ⟨fun hk => ?_, fun _ hk => ?_, fun h => by omega⟩
    · unfold nestAll
      rw [hrec]
      simp only []
      rw [if_pos ⟨trivial, trivial⟩]
      generalize hT : ((1 : Int), 0, 1) :: oneBy 1 u.size = T
      have h1 := fun T p => go_over u T 1 k [] hk (fun j j1 j2 => ho j j1 (by omega)) p
      rw [← hsz] at h1
      simp only [List.append_nil] at h1
      have h3 : nestGo u T ((1, 0, 1) :: oneBy 1 u.size) 0 [] (List.replicate T.length 0) 0 = .error (6, 101) := by
        rw [nestGo_cons, if_neg (n1 0), if_neg (n2 0), h1]
        rfl
      rw [hT] at h3
      rw [h3]
    · unfold nestAll
      rw [hrec]
      simp only []
      rw [if_pos ⟨trivial, trivial⟩]
      generalize hT : ((1 : Int), 0, 1) :: oneBy 1 u.size = T
      obtain ⟨p1, h1⟩ := go_opens u T 1 k [] hk 0 0 ((List.replicate T.length 0).set 0 (-1)) (by omega) (fun j j1 j2 => ho j (by omega) (by omega))
      rw [← hsz, show desca 1 0 = [] from rfl] at h1
      simp only [List.append_nil, Nat.add_zero] at h1
      have h3 : nestGo u T ((1, 0, 1) :: oneBy 1 u.size) 0 [] (List.replicate T.length 0) 0 = .error (5, (k : Int)) := by
        rw [nestGo_cons, if_neg (n1 0), if_neg (n2 0)]
        rw [show (0 + 1) = 1 from rfl, h1]
        obtain ⟨k', rfl⟩ : ∃ k', k = k' + 1 := ⟨k - 1, by omega⟩
        rw [desca, nestGo, ← hT]
        have := oneBy_getD 1 u.size k' [] (by omega)
        rw [List.append_nil] at this
        rw [show 1 + k' = k' + 1 by omega, List.getD_cons_succ, this]
        simp only []
        rw [show 1 + k' = k' + 1 by omega]
      rw [hT] at h3
      rw [h3]
end Go.Proofs.YtelfobnmiphdnaaGreatDoor
namespace Go.Proofs.YtelfobnmiphdnaaGreatDoor
set_option linter.all false
open Go.RowKit

/-- What Of answers: tokens, partners, an error and a place. -/
@[irreducible] def nofPost (q : List Tok × List Int × Int × Int × Int) (w0 : World) (e : Ending) (w' : World) : Prop :=
  ∃ v1 v2, e = .returned (.tuple #[v1, v2, .agg #[.int .i64 q.2.2.2.1, .int .i64 q.2.2.2.2]]) ∧ Below w0.heap.size w0 w' ∧ TokRow w' v1 q.1 ∧ RowInts w' v2 .i64 q.2.1 ∧ NewV w0.heap.size v1 ∧ NewV w0.heap.size v2
/-- What Depth answers: how many brackets were open, an error and a place. -/
@[irreducible] def depthPost (q : List Tok × List Int × Int × Int × Int) (w0 : World) (e : Ending) (w' : World) : Prop :=
  e = .returned (.tuple #[.int .i64 q.2.2.1, .agg #[.int .i64 q.2.2.2.1, .int .i64 q.2.2.2.2]]) ∧ Below w0.heap.size w0 w'
set_option maxRecDepth 100000 in
set_option maxHeartbeats 4000000 in
theorem nest_Of (s : ByteArray) (hs : s.size ≤ 2147483647) (w : World) (hT : Tabs w) (hM : MaxC w) :
    Calls Tryz.prog 5 #[.string s] w (nofPost (nestAll s) w) := by
  have HQ : RowKit.Hid (∀ w' v1 v2 l p m e a, nestAll s = (l, p, m, e, a) → Below w.heap.size w w' → TokRow w' v1 l → RowInts w' v2 .i64 p → NewV w.heap.size v1 → NewV w.heap.size v2 → nofPost (nestAll s) w (.returned (.tuple #[v1, v2, .agg #[.int .i64 e, .int .i64 a]])) w') := Lib.hid fun w' v1 v2 l p m e a h h2 h3 h4 h5 h6 => by
    unfold nofPost; rw [h]; exact ⟨v1, v2, rfl, h2, h3, h4, h5, h6⟩
  have C1 := Lib.hid (fun w' (hb : Below w.heap.size w w') => nest_walk s hs w' (hT.below hb) (hM.below hb))
  generalize nofPost (nestAll s) w = Q at *
  have HF : RowKit.Hid (∀ (tm : Array Value) W' v1 v2 l p m e a, nestAll s = (l, p, m, e, a) → Below w.heap.size w W' → TokRow W' v1 l → RowInts W' v2 .i64 p → NewV w.heap.size v1 → NewV w.heap.size v2 → FK W' w.heap.size e a → tm.getD 4 undef = .pointer (some ⟨w.heap.size, 0, none⟩) → tm.getD 2 undef = v1 → tm.getD 3 undef = v2 → bodyPost Tryz.prog Tryz.f5 Q .ret ⟨tm, []⟩ W') :=
    Lib.hid fun tm W' v1 v2 l p m e a h1 h2 h3 h4 n1 n2 h5 h6 h7 h8 => by
      refine bodyPost_ret (results_tmp2_cell rfl tm W' w.heap.size 27 #[.int .i64 e, .int .i64 a] (0, 0) _ h6 h5 Tryz.underlying27 rfl (by kernel_rfl)) rfl ?_
      rw [h7, h8]
      exact HQ.out W' v1 v2 l p m e a h1 h2 h3 h4 n1 n2
  have hT4 : FK (w.alloc (.cells #[.int .i64 0, .int .i64 0] 27)) w.heap.size 0 0 := by
    unfold FK; exact heap_alloc_new _ _
  have hbW : Below w.heap.size w (w.alloc (.cells #[.int .i64 0, .int .i64 0] 27)) := (Below.refl _ _).alloc (Nat.le_refl _) _
  have H4 := Lib.hid hT4
  have HBW := Lib.hid hbW
  clear hT4 hbW
  go_enter Tryz.func5, Tryz.ntmps5
  go_wp2_with fail
  refine (C1.out _ HBW.out).mono ?_
  intro e w1 h1
  unfold walkPost at h1
  have HE := Lib.hid (rfl : nestAll s = nestAll s)
  generalize hq : nestAll s = q at h1
  obtain ⟨L, P, m, er, ea⟩ := q
  simp only [] at h1
  obtain ⟨v1, v2, rfl, hb1, hr1, hp1, hn1, hn2⟩ := h1
  have HQQ := Lib.hid hq
  have hA : Below w1.heap.size w1 (w1.alloc (.cells #[.int .i64 er, .int .i64 ea] 27)) := (Below.refl _ _).alloc (Nat.le_refl _) _
  have HA1 := Lib.hid (bthen (bthen HBW.out hb1) hA)
  have HF2 := Lib.hid ((H4.out.keep hb1).alloc (.cells #[.int .i64 er, .int .i64 ea] 27))
  have HX : RowKit.Hid (FK (w1.alloc (.cells #[.int .i64 er, .int .i64 ea] 27)) w1.heap.size er ea) := Lib.hid (by unfold FK; exact heap_alloc_new _ _)
  have HR1 := Lib.hid (hr1.below hA)
  have HP1 := Lib.hid (hp1.below hA)
  have HN1 := Lib.hid (hn1.mono (show w.heap.size + 1 ≤ (w.alloc (.cells #[.int .i64 0, .int .i64 0] 27)).heap.size by simp))
  have HN2 := Lib.hid (hn2.mono (show w.heap.size + 1 ≤ (w.alloc (.cells #[.int .i64 0, .int .i64 0] 27)).heap.size by simp))
  obtain ⟨va, vcap, rfl, _, _⟩ := hr1
  obtain ⟨pa, pcap, rfl, _, _⟩ := hp1.open'
  clear hb1 hq hp1 hA C1 H4 HBW hn1 hn2
  have x0 := HX.out.c0; have x1 := HX.out.c1
  have z50 := HF2.out.fz 0; have z51 := HF2.out.fz 1; have c50 := HF2.out.c0; have c51 := HF2.out.c1
  go_wp2_with fail
  generalize w1.alloc (.cells #[.int .i64 er, .int .i64 ea] 27) = W0 at *
  go_region
  all_goals
    go_wp2_with fail
    exact HF.out _ _ _ _ L P m er ea HQQ.out ((below_fill2 HA1.out (Nat.le_refl _) _ _).drew) (((HR1.out.setCell (HN1.out.ne (by simp)) _).setCell (HN1.out.ne (by simp)) _).below (Below.refl _ _).drew) (((HP1.out.setCell (HN2.out.ne (by simp)) _).setCell (HN2.out.ne (by simp)) _).below (Below.refl _ _).drew) (HN1.out.mono (by omega)) (HN2.out.mono (by omega)) (HF2.out.fill _ _) rfl rfl rfl
set_option maxRecDepth 100000 in
set_option maxHeartbeats 4000000 in
theorem nest_Depth (s : ByteArray) (hs : s.size ≤ 2147483647) (w : World) (hT : Tabs w) (hM : MaxC w) :
    Calls Tryz.prog 6 #[.string s] w (depthPost (nestAll s) w) := by
  have HQ : RowKit.Hid (∀ w' l p m e a, nestAll s = (l, p, m, e, a) → Below w.heap.size w w' → depthPost (nestAll s) w (.returned (.tuple #[.int .i64 m, .agg #[.int .i64 e, .int .i64 a]])) w') := Lib.hid fun w' l p m e a h h2 => by
    unfold depthPost; rw [h]; exact ⟨rfl, h2⟩
  have C1 := Lib.hid (fun w' (hb : Below w.heap.size w w') => nest_walk s hs w' (hT.below hb) (hM.below hb))
  generalize depthPost (nestAll s) w = Q at *
  have HF : RowKit.Hid (∀ (tm : Array Value) W' l p m e a, nestAll s = (l, p, m, e, a) → Below w.heap.size w W' → FK W' w.heap.size e a → tm.getD 3 undef = .pointer (some ⟨w.heap.size, 0, none⟩) → tm.getD 2 undef = .int .i64 m → bodyPost Tryz.prog Tryz.f6 Q .ret ⟨tm, []⟩ W') :=
    Lib.hid fun tm W' l p m e a h1 h2 h5 h6 h7 => by
      refine bodyPost_ret (results_tmp_cell rfl tm W' w.heap.size 27 #[.int .i64 e, .int .i64 a] (0, 0) _ h6 h5 Tryz.underlying27 rfl (by kernel_rfl)) rfl ?_
      rw [h7]
      exact HQ.out W' l p m e a h1 h2
  have hT4 : FK (w.alloc (.cells #[.int .i64 0, .int .i64 0] 27)) w.heap.size 0 0 := by
    unfold FK; exact heap_alloc_new _ _
  have hbW : Below w.heap.size w (w.alloc (.cells #[.int .i64 0, .int .i64 0] 27)) := (Below.refl _ _).alloc (Nat.le_refl _) _
  have H4 := Lib.hid hT4
  have HBW := Lib.hid hbW
  clear hT4 hbW
  go_enter Tryz.func6, Tryz.ntmps6
  go_wp2_with fail
  refine (C1.out _ HBW.out).mono ?_
  intro e w1 h1
  unfold walkPost at h1
  generalize hq : nestAll s = q at h1
  obtain ⟨L, P, m, er, ea⟩ := q
  simp only [] at h1
  obtain ⟨v1, v2, rfl, hb1, hr1, hp1, hn1, hn2⟩ := h1
  have HQQ := Lib.hid hq
  have hA : Below w1.heap.size w1 (w1.alloc (.cells #[.int .i64 er, .int .i64 ea] 27)) := (Below.refl _ _).alloc (Nat.le_refl _) _
  have HA1 := Lib.hid (bthen (bthen HBW.out hb1) hA)
  have HF2 := Lib.hid ((H4.out.keep hb1).alloc (.cells #[.int .i64 er, .int .i64 ea] 27))
  have HX : RowKit.Hid (FK (w1.alloc (.cells #[.int .i64 er, .int .i64 ea] 27)) w1.heap.size er ea) := Lib.hid (by unfold FK; exact heap_alloc_new _ _)
  obtain ⟨va, vcap, rfl, _, _⟩ := hr1
  obtain ⟨pa, pcap, rfl, _, _⟩ := hp1.open'
  clear hb1 hq hp1 hA C1 H4 HBW hn1 hn2
  have x0 := HX.out.c0; have x1 := HX.out.c1
  have z50 := HF2.out.fz 0; have z51 := HF2.out.fz 1; have c50 := HF2.out.c0; have c51 := HF2.out.c1
  go_wp2_with fail
  generalize w1.alloc (.cells #[.int .i64 er, .int .i64 ea] 27) = W0 at *
  go_region
  all_goals
    go_wp2_with fail
    exact HF.out _ _ L P m er ea HQQ.out ((below_fill2 HA1.out (Nat.le_refl _) _ _).drew) (HF2.out.fill _ _) rfl rfl
/-- What holds at the loop's head. -/
def intsRel (a b : List Int) (w : World) (i : Value) (wr : World) : Prop := ∃ k : Nat, i = .int .i64 (k : Int) ∧ k ≤ a.length ∧ a.take k = b.take k ∧ Below w.heap.size w wr
set_option maxRecDepth 100000 in
set_option maxHeartbeats 4000000 in
theorem ref_Ints (v1 v2 : Value) (a b : List Int) (hla : a.length ≤ 1000000000) (hlb2 : b.length ≤ 1000000000) (w : World) (hr1 : RowInts w v1 .i64 a) (hr2 : RowInts w v2 .i64 b) :
    Calls Tryz.prog 9 #[v1, v2] w fun e w' => e = .returned (.bool (decide (a = b))) ∧ Below w.heap.size w w' := by
  have HQ : RowKit.Hid (∀ x w', decide (a = b) = x → Below w.heap.size w w' → (fun (e : Ending) w' => e = .returned (.bool (decide (a = b))) ∧ Below w.heap.size w w') (.returned (.bool x)) w') := Lib.hid fun x w' h h2 => ⟨by rw [h], h2⟩
  generalize (fun (e : Ending) w' => e = .returned (.bool (decide (a = b))) ∧ Below w.heap.size w w') = Q at *
  have HR1 := Lib.hid hr1
  have HR2 := Lib.hid hr2
  obtain ⟨a1, cap1, rfl, hcap1, _⟩ := hr1.open'
  obtain ⟨a2, cap2, rfl, hcap2, _⟩ := hr2.open'
  clear hr1 hr2
  go_enter Tryz.func9, Tryz.ntmps9
  by_cases hl : a.length = b.length
  · have hlb : ((a.length : Int) == (b.length : Int)) = true := by rw [beq_iff_eq]; omega
    have hlc : ((a.length : Int) != (b.length : Int)) = false := by rw [bne_eq_false_iff_eq]; omega
    have hld : (a.length != b.length) = false := by rw [bne_eq_false_iff_eq]; exact hl
    have HL := Lib.hid hl
    clear hl
    go_wp2_with fail
    go_loopw [5] (fun i wr => intsRel a b w i wr) (fun i _ => a.length - (intOf i).toNat)
    case atStart => exact ⟨0, rfl, Nat.zero_le _, rfl, Below.refl _ _⟩
    case round =>
      obtain ⟨k, rfl, hk, htk, hb⟩ := hrel
      have HB := Lib.hid hb
      have HTK := Lib.hid htk
      clear hb htk
      by_cases hlt : k < a.length
      · have hlt' : (k : Int) < a.length := by omega
        obtain ⟨_, _, hva, _, ha2⟩ := HR1.out.open'
        obtain ⟨_, _, hvb, _, hb2⟩ := HR2.out.open'
        simp only [Value.slice.injEq] at hva hvb
        obtain ⟨rfl, _, rfl⟩ := hva
        obtain ⟨rfl, _, rfl⟩ := hvb
        obtain ⟨b1, o1, rfl, hb1, hc1⟩ := ha2 (by omega)
        obtain ⟨b2, o2, rfl, hb2', hc2⟩ := hb2 (by have := HL.out; omega)
        have hkbb : k < b.length := by have := HL.out; omega
        have d0 : wr.cell? ⟨b1, o1 + k, none⟩ = some (.int .i64 a[k]) := by rw [HB.out.cell (p := ⟨b1, o1 + k, none⟩) hb1]; exact hc1 k hlt
        have d1 : wr.cell? ⟨b2, o2 + k, none⟩ = some (.int .i64 b[k]) := by rw [HB.out.cell (p := ⟨b2, o2 + k, none⟩) hb2']; exact hc2 k hkbb
        have hk0 : (0 : Int) ≤ k := by omega
        have hlt2 : (k : Int) < b.length := by omega
        have hkc1 : (k : Int) < cap1 := by omega
        have hkc2 : (k : Int) < cap2 := by omega
        have hwk : IntKind.i64.wrap ((k : Int) + 1) = ((k + 1 : Nat) : Int) := by rw [IntKind.wrap_i64]; omega
        have HK1 : RowKit.Hid (k + 1 ≤ a.length) := Lib.hid hlt
        have HML : RowKit.Hid (a.length - (k + 1) < a.length - k) := Lib.hid (by omega)
        have hkb : k < b.length := by have := HL.out; omega
        have HX := Lib.hid (fun (h : a[k] = b[k]) => show a.take (k + 1) = b.take (k + 1) by
          rw [List.take_succ_eq_append_getElem hlt, List.take_succ_eq_append_getElem hkb, HTK.out]; exact congrArg (fun z => List.take k b ++ [z]) h)
        have HY := Lib.hid (fun (h : a[k] ≠ b[k]) => show decide (a = b) = false from decide_eq_false (fun e => h (by subst e; rfl)))
        clear hc1 hc2 ha2 hb2
        generalize a[k] = x at *
        generalize b[k] = y at *
        have hE : x = y ∨ x ≠ y := by omega
        rcases hE with hE | hE
        · have HTK1 := Lib.hid (HX.out hE)
          have hEb : (x == y) = true := by rw [beq_iff_eq]; exact hE
          have hEc : (x != y) = false := by rw [bne_eq_false_iff_eq]; exact hE
          subst hE
          go_wp2_with fail
          go_quiet (fail)
          have HB2 := Lib.hid (bdrewN HB.out nq)
          go_wp2_with fail
          have HR : RowKit.Hid (intsRel a b w (.int .i64 ((k + 1 : Nat) : Int)) (wr.drewN nq)) := Lib.hid ⟨k + 1, rfl, HK1.out, HTK1.out, HB2.out⟩
          refine ⟨?_, (by have := HML.out; simp [intOf]; try omega)⟩
          first
            | exact HR.out
            | (repeat apply Exists.intro
               refine ⟨?_, rfl⟩
               exact HR.out)
        · have HF := Lib.hid (HY.out hE)
          have hEb : (x == y) = false := by rw [beq_eq_false_iff_ne]; exact hE
          have hEc : (x != y) = true := by rw [bne_iff_ne]; exact hE
          clear hE
          go_wp2_with fail
          go_quiet (fail)
          have HB2 := Lib.hid (bdrewN HB.out nq)
          go_wp2_with fail
          exact HQ.out _ _ HF.out HB2.out
      · have hlt' : ¬ (k : Int) < a.length := by omega
        have HF : RowKit.Hid (decide (a = b) = true) := Lib.hid (decide_eq_true (by
          have h := HTK.out
          have hl := HL.out
          rw [List.take_of_length_le (by omega), List.take_of_length_le (by omega)] at h
          exact h))
        go_wp2_with fail
        exact HQ.out _ _ HF.out HB.out
  · have hlb : ((a.length : Int) == (b.length : Int)) = false := by rw [beq_eq_false_iff_ne]; omega
    have hlc : ((a.length : Int) != (b.length : Int)) = true := by rw [bne_iff_ne]; omega
    have hld : (a.length != b.length) = true := by rw [bne_iff_ne]; exact hl
    have HF : RowKit.Hid (decide (a = b) = false) := Lib.hid (decide_eq_false (fun e => hl (by rw [e])))
    go_wp2_with fail
    exact HQ.out _ _ HF.out (Below.refl _ _)
end Go.Proofs.YtelfobnmiphdnaaGreatDoor
namespace Go.Proofs.YtelfobnmiphdnaaGreatDoor
set_option linter.all false
attribute [local irreducible] Calls
open Go.RowKit

theorem ints_lit (w : World) (C : Array Value) (l : List Int) (n c : Nat) (h : C = (l.map (Value.int .i64)).toArray) (hn : l.length = n) (hc : n ≤ c) : RowInts (w.alloc (.cells C 3)) (.slice (some ⟨w.heap.size, 0, none⟩) n c) .i64 l := by
  subst hn h
  refine ⟨by simp, _, _, rfl, hc, by simp, fun hp => ⟨w.heap.size, 0, rfl, by simp, fun i hi => ?_⟩⟩
  rw [Nat.zero_add, World.cell?_alloc_at _ _ _ _ rfl]
  simp
theorem ex9_a : nestAll ⟨#[102, 40, 97, 91, 49, 93, 41]⟩ = ([(1, 0, 1), (8, 1, 2), (1, 2, 3), (8, 3, 4), (3, 4, 5), (8, 5, 6), (8, 6, 7), (9, 7, 7)], [-1, 6, -1, 5, -1, 3, 1, -1], 2, 0, 0) := by decide +kernel
theorem ex9_b : nestAll ⟨#[40, 93]⟩ = ([], [], 0, 5, 1) := by decide +kernel
theorem ex9_c : (nestAll ⟨#[97, 40, 98, 41, 123, 99, 91, 49, 93, 125]⟩).2.2 = (2, 0, 0) := by decide +kernel
set_option maxRecDepth 100000 in
set_option maxHeartbeats 4000000 in
theorem law09_fixed (w : World) (hT : Tabs w) (hM : MaxC w) :
    Calls Tryz.prog 4 #[] w fun e w' => e = .returned (.bool true) ∧ Below w.heap.size w w' := by
  have HQ : RowKit.Hid (∀ w', Below w.heap.size w w' → (fun (e : Ending) w' => e = .returned (.bool true) ∧ Below w.heap.size w w') (.returned (.bool true)) w') := Lib.hid fun w' h => ⟨rfl, h⟩
  generalize (fun (e : Ending) w' => e = .returned (.bool true) ∧ Below w.heap.size w w') = Q at *
  have C1 := Lib.hid (nest_Of ⟨#[102, 40, 97, 91, 49, 93, 41]⟩ (by decide) w hT hM)
  have C2 := Lib.hid (fun w' (hb : Below w.heap.size w w') => nest_Of ⟨#[40, 93]⟩ (by decide) w' (hT.below hb) (hM.below hb))
  have C3 := Lib.hid (fun w' (hb : Below w.heap.size w w') => nest_Depth ⟨#[97, 40, 98, 41, 123, 99, 91, 49, 93, 125]⟩ (by decide) w' (hT.below hb) (hM.below hb))
  have CI := Lib.hid (fun v1 v2 w' h1 h2 => ref_Ints v1 v2 [-1, 6, -1, 5, -1, 3, 1, -1] [-1, 6, -1, 5, -1, 3, 1, -1] (by decide) (by decide) w' h1 h2)
  go_enter Tryz.func4, Tryz.ntmps4
  go_wp2_with fail
  refine C1.out.mono ?_
  intro e w1 h1
  unfold nofPost at h1
  rw [ex9_a] at h1
  obtain ⟨v1, p1, rfl, hb1, hr1, hp1, _, _⟩ := h1
  simp only [] at hr1 hp1
  have HB1 := Lib.hid hb1
  have HP1 := Lib.hid hp1
  obtain ⟨va, vcap, rfl, _, _⟩ := hr1
  obtain ⟨pa, pcap, rfl, _, _⟩ := hp1.open'
  have HF1 : RowKit.Hid (FK (w1.alloc (.cells #[.int .i64 0, .int .i64 0] 27)) w1.heap.size 0 0) := Lib.hid (by unfold FK; exact heap_alloc_new _ _)
  have HA1 : RowKit.Hid (Below w1.heap.size w1 (w1.alloc (.cells #[.int .i64 0, .int .i64 0] 27))) := Lib.hid ((Below.refl _ _).alloc (Nat.le_refl _) _)
  clear hb1 hp1 C1
  go_wp2_with fail
  refine (C2.out _ (bthen HB1.out HA1.out)).mono ?_
  intro e w2 h2
  unfold nofPost at h2
  rw [ex9_b] at h2
  obtain ⟨v2, p2, rfl, hb2, hr2, hp2, _, _⟩ := h2
  simp only [] at hr2 hp2
  have HA2 := Lib.hid (bthen HA1.out hb2)
  have HF2 := Lib.hid ((HF1.out.keep hb2).alloc (.cells #[.int .i64 5, .int .i64 1] 27))
  have HG2 : RowKit.Hid (FK (w2.alloc (.cells #[.int .i64 5, .int .i64 1] 27)) w2.heap.size 5 1) := Lib.hid (by unfold FK; exact heap_alloc_new _ _)
  have HA3 : RowKit.Hid (Below w2.heap.size w2 (w2.alloc (.cells #[.int .i64 5, .int .i64 1] 27))) := Lib.hid ((Below.refl _ _).alloc (Nat.le_refl _) _)
  obtain ⟨_, _, rfl, _, _⟩ := hr2
  obtain ⟨_, _, rfl, _, _⟩ := hp2.open'
  clear hb2 hp2 C2 HF1 HA1
  go_wp2_with fail
  refine (C3.out _ (bthen HB1.out (bthen HA2.out HA3.out))).mono ?_
  intro e w3 h3
  unfold depthPost at h3
  rw [show (nestAll ⟨#[97, 40, 98, 41, 123, 99, 91, 49, 93, 125]⟩).2.2.1 = 2 from congrArg Prod.fst ex9_c, show (nestAll ⟨#[97, 40, 98, 41, 123, 99, 91, 49, 93, 125]⟩).2.2.2.1 = 0 from congrArg (fun x => x.2.1) ex9_c, show (nestAll ⟨#[97, 40, 98, 41, 123, 99, 91, 49, 93, 125]⟩).2.2.2.2 = 0 from congrArg (fun x => x.2.2) ex9_c] at h3
  obtain ⟨rfl, hb3⟩ := h3
  have HA4 := Lib.hid (bthen HA2.out (bthen HA3.out hb3))
  have HF3 := Lib.hid ((HF2.out.keep hb3).alloc (.cells #[.int .i64 0, .int .i64 0] 27))
  have HG3 := Lib.hid ((HG2.out.keep hb3).alloc (.cells #[.int .i64 0, .int .i64 0] 27))
  have HK3 : RowKit.Hid (FK (w3.alloc (.cells #[.int .i64 0, .int .i64 0] 27)) w3.heap.size 0 0) := Lib.hid (by unfold FK; exact heap_alloc_new _ _)
  have HB3 := Lib.hid (bthen HB1.out (bthen HA4.out ((Below.refl _ _).alloc (Nat.le_refl _) (.cells #[.int .i64 0, .int .i64 0] 27))))
  have HP3 := Lib.hid (HP1.out.below (bthen HA4.out ((Below.refl _ _).alloc (Nat.le_refl _) (.cells #[.int .i64 0, .int .i64 0] 27))))
  clear hb3 C3 HF2 HG2 HA2 HA3 HA4 HB1 HP1
  have f0 := HF3.out.c0; have f1 := HF3.out.c1
  have g0 := HG3.out.c0; have g1 := HG3.out.c1
  have k0 := HK3.out.c0; have k1 := HK3.out.c1
  go_wp2_with fail
  have hL := ints_lit (w3.alloc (.cells #[.int .i64 0, .int .i64 0] 27)) #[.int .i64 (-1), .int .i64 6, .int .i64 (-1), .int .i64 5, .int .i64 (-1), .int .i64 3, .int .i64 1, .int .i64 (-1)] [-1, 6, -1, 5, -1, 3, 1, -1] 8 8 rfl rfl (Nat.le_refl _)
  rw [show (w3.alloc (.cells #[.int .i64 0, .int .i64 0] 27)).heap.size = w3.heap.size + 1 by simp] at hL
  have hB : Below (w3.alloc (.cells #[.int .i64 0, .int .i64 0] 27)).heap.size (w3.alloc (.cells #[.int .i64 0, .int .i64 0] 27)) ((w3.alloc (.cells #[.int .i64 0, .int .i64 0] 27)).alloc (.cells #[.int .i64 (-1), .int .i64 6, .int .i64 (-1), .int .i64 5, .int .i64 (-1), .int .i64 3, .int .i64 1, .int .i64 (-1)] 3)) := (Below.refl _ _).alloc (Nat.le_refl _) _
  have hP := HP3.out.below hB
  have HB4 := Lib.hid (bthen HB3.out hB)
  have HF4 := Lib.hid (HF3.out.keep hB)
  have HG4 := Lib.hid (HG3.out.keep hB)
  have HK4 := Lib.hid (HK3.out.keep hB)
  clear f0 f1 g0 g1 k0 k1 HF3 HG3 HK3 HB3 hB HP3
  generalize (w3.alloc (.cells #[.int .i64 0, .int .i64 0] 27)).alloc (.cells #[.int .i64 (-1), .int .i64 6, .int .i64 (-1), .int .i64 5, .int .i64 (-1), .int .i64 3, .int .i64 1, .int .i64 (-1)] 3) = W4 at *
  refine (CI.out _ _ _ hP hL).mono ?_
  rintro e w4 ⟨rfl, hb4⟩
  have HB5 := Lib.hid (bthen HB4.out hb4)
  have HF5 := Lib.hid (HF4.out.keep hb4)
  have HG5 := Lib.hid (HG4.out.keep hb4)
  have HK5 := Lib.hid (HK4.out.keep hb4)
  have f0 := HF5.out.c0; have f1 := HF5.out.c1
  have g0 := HG5.out.c0; have g1 := HG5.out.c1
  have k0 := HK5.out.c0; have k1 := HK5.out.c1
  clear hb4 hP hL
  go_wp2_with fail
  show Q (.returned (.bool true)) _
  exact HQ.out _ HB5.out
end Go.Proofs.YtelfobnmiphdnaaGreatDoor
namespace Go.Proofs.YtelfobnmiphdnaaGreatDoor
set_option linter.all false
attribute [local irreducible] wpStill
open Go.RowKit

/-- A bracket's sort. -/
def sortR (c : Nat) : Int := if c = 40 then 1 else if c = 91 then 2 else if c = 123 then 3 else if c = 41 then -1 else if c = 93 then -2 else if c = 125 then -3 else 0
theorem text_is (s : ByteArray) (f t : Nat) (h1 : f ≤ t) (h2 : t ≤ s.size) (c : UInt8) : ((s.extract f t).toList == [c]) = decide (t = f + 1 ∧ bt s f = c.toNat) := by
  have hz := piece_size (s := s) (i := f) (e := t) h1 h2
  by_cases ht : t = f + 1
  · subst ht
    have hf : f < s.size := by omega
    obtain ⟨b, hb⟩ : ∃ b : UInt8, bt s f = b.toNat := ⟨s.get! f, rfl⟩
    rw [one_text hf b hb, ByteArray.toList_eq, hb]
    by_cases e : b = c
    · subst e; simp
    · have e2 : b.toNat ≠ c.toNat := fun g => e (UInt8.toNat_inj.1 g)
      simp [e, e2]
  · rw [decide_eq_false (fun g => ht g.1), beq_eq_false_iff_ne, ByteArray.toList_eq]
    intro e
    have := congrArg List.length e
    rw [← size_data, hz] at this
    simp at this
    omega
set_option maxRecDepth 100000 in
set_option maxHeartbeats 4000000 in
theorem ref_sort (s : ByteArray) (k : Int) (f t : Nat) (h1 : f ≤ t) (h2 : t ≤ s.size) (hs : s.size ≤ 2147483647) (w : World) :
    Calls Tryz.prog 12 #[.string s, .agg #[.int .u8 k, .int .i64 (f : Int), .int .i64 (t : Int)]] w fun e w' => e = .returned (.int .i64 (sortR (bch s (k, f, t)))) ∧ Below w.heap.size w w' := by
  have HQ : RowKit.Hid (∀ x w', sortR (bch s (k, f, t)) = x → Below w.heap.size w w' → (fun (e : Ending) w' => e = .returned (.int .i64 (sortR (bch s (k, f, t)))) ∧ Below w.heap.size w w') (.returned (.int .i64 x)) w') := Lib.hid fun x w' h h2 => ⟨by rw [h], h2⟩
  generalize (fun (e : Ending) w' => e = .returned (.int .i64 (sortR (bch s (k, f, t)))) ∧ Below w.heap.size w w') = Q at *
  have HTK := TK.alloc_new w k f t
  have t0 := HTK.c0; have t1 := HTK.c1; have t2 := HTK.c2
  have HB := Lib.hid ((Below.refl w.heap.size w).alloc (Nat.le_refl _) (.cells #[.int .u8 k, .int .i64 (f : Int), .int .i64 (t : Int)] 41))
  have hsl : ∀ w, (Instr.slice 9 (.string s) (some (.int .i64 (f : Int))) (some (.int .i64 (t : Int))) none).run Tryz.prog w = .ok (.string (s.extract f t)) w := fun w => by
    rw [run_slice_string_if w _ s _ _ _ _ Tryz.underlying9, if_pos ⟨by omega, by omega⟩, if_pos ⟨by omega, by omega⟩, Int.toNat_natCast, Int.toNat_natCast]
  have hE := text_is s f t h1 h2
  clear HTK
  by_cases h8 : k = 8
  · subst h8
    by_cases ht : t = f + 1
    · have hb : bch s (8, f, t) = bt s f := by unfold bch; exact if_pos ⟨rfl, ht⟩
      rw [hb] at HQ
      have hE2 : ∀ c : UInt8, ((s.extract f t).toList == [c]) = decide (bt s f = c.toNat) := fun c => by rw [hE c]; simp [ht]
      have e1 := hE2 40; have e2 := hE2 91; have e3 := hE2 123; have e4 := hE2 41; have e5 := hE2 93; have e6 := hE2 125
      rw [show (40 : UInt8).toNat = 40 from rfl] at e1
      rw [show (91 : UInt8).toNat = 91 from rfl] at e2
      rw [show (123 : UInt8).toNat = 123 from rfl] at e3
      rw [show (41 : UInt8).toNat = 41 from rfl] at e4
      rw [show (93 : UInt8).toNat = 93 from rfl] at e5
      rw [show (125 : UInt8).toNat = 125 from rfl] at e6
      have hHQ := HQ.out
      clear hE hE2 hb ht HQ
      generalize bt s f = c at *
      generalize s.extract f t = X at *
      have HQ := Lib.hid hHQ
      clear hHQ
      have hcs : c = 40 ∨ c = 91 ∨ c = 123 ∨ c = 41 ∨ c = 93 ∨ c = 125 ∨ (c ≠ 40 ∧ c ≠ 91 ∧ c ≠ 123 ∧ c ≠ 41 ∧ c ≠ 93 ∧ c ≠ 125) := by omega
      rcases hcs with rfl | rfl | rfl | rfl | rfl | rfl | ⟨n1, n2, n3, n4, n5, n6⟩
      · go_enter Tryz.func12, Tryz.ntmps12
        go_wp2_with fail
        exact HQ.out _ _ rfl HB.out
      · go_enter Tryz.func12, Tryz.ntmps12
        go_wp2_with fail
        exact HQ.out _ _ rfl HB.out
      · go_enter Tryz.func12, Tryz.ntmps12
        go_wp2_with fail
        exact HQ.out _ _ rfl HB.out
      · go_enter Tryz.func12, Tryz.ntmps12
        go_wp2_with fail
        exact HQ.out _ _ rfl HB.out
      · go_enter Tryz.func12, Tryz.ntmps12
        go_wp2_with fail
        exact HQ.out _ _ rfl HB.out
      · go_enter Tryz.func12, Tryz.ntmps12
        go_wp2_with fail
        exact HQ.out _ _ rfl HB.out
      · have HF := Lib.hid (show sortR c = 0 by unfold sortR; rw [if_neg n1, if_neg n2, if_neg n3, if_neg n4, if_neg n5, if_neg n6])
        rw [decide_eq_false n1] at e1
        rw [decide_eq_false n2] at e2
        rw [decide_eq_false n3] at e3
        rw [decide_eq_false n4] at e4
        rw [decide_eq_false n5] at e5
        rw [decide_eq_false n6] at e6
        clear n1 n2 n3 n4 n5 n6
        go_enter Tryz.func12, Tryz.ntmps12
        go_wp2_with fail
        exact HQ.out _ _ HF.out HB.out
    · have HF := Lib.hid (show sortR (bch s (8, f, t)) = 0 by unfold bch; rw [if_neg (fun g => ht g.2)]; rfl)
      have hE2 : ∀ c : UInt8, ((s.extract f t).toList == [c]) = false := fun c => by rw [hE c]; simp [ht]
      have e1 := hE2 40; have e2 := hE2 91; have e3 := hE2 123; have e4 := hE2 41; have e5 := hE2 93; have e6 := hE2 125
      clear hE hE2 ht
      generalize s.extract f t = X at *
      go_enter Tryz.func12, Tryz.ntmps12
      go_wp2_with fail
      exact HQ.out _ _ HF.out HB.out
  · have HF := Lib.hid (show sortR (bch s (k, f, t)) = 0 by unfold bch; rw [if_neg (fun g => h8 g.1)]; rfl)
    have hk : (k == 8) = false := by rw [beq_eq_false_iff_ne]; exact h8
    clear hE h8
    go_enter Tryz.func12, Tryz.ntmps12
    go_wp2_with fail
    exact HQ.out _ _ HF.out HB.out
theorem sort_open {c : Nat} : closer c ≠ 0 ↔ 0 < sortR c := by
  unfold closer sortR
  by_cases h1 : c = 40
  · subst h1; decide
  · by_cases h2 : c = 91
    · subst h2; decide
    · by_cases h3 : c = 123
      · subst h3; decide
      · rw [if_neg h1, if_neg h2, if_neg h3, if_neg h1, if_neg h2, if_neg h3]
        refine ⟨fun h => absurd rfl h, fun h => ?_⟩
        split at h
        · omega
        · split at h
          · omega
          · split at h <;> omega
theorem sort_close {c : Nat} : isClose c = true ↔ sortR c < 0 := by
  have hcs : c = 40 ∨ c = 91 ∨ c = 123 ∨ c = 41 ∨ c = 93 ∨ c = 125 ∨ (c ≠ 40 ∧ c ≠ 91 ∧ c ≠ 123 ∧ c ≠ 41 ∧ c ≠ 93 ∧ c ≠ 125) := by omega
  rcases hcs with rfl | rfl | rfl | rfl | rfl | rfl | ⟨n1, n2, n3, n4, n5, n6⟩
  all_goals first
    | decide
    | (unfold isClose sortR; rw [if_neg n1, if_neg n2, if_neg n3, if_neg n4, if_neg n5, if_neg n6]; simp [n4, n5, n6])
theorem sort_pair {a c : Nat} (ha : closer a ≠ 0) (hc : isClose c = true) : sortR a + sortR c = 0 ↔ closer a = c := by
  have h1 : a = 40 ∨ a = 91 ∨ a = 123 := by
    unfold closer at ha
    by_cases h1 : a = 40
    · exact Or.inl h1
    · by_cases h2 : a = 91
      · exact Or.inr (Or.inl h2)
      · by_cases h3 : a = 123
        · exact Or.inr (Or.inr h3)
        · rw [if_neg h1, if_neg h2, if_neg h3] at ha; exact absurd rfl ha
  have h2 : c = 41 ∨ c = 93 ∨ c = 125 := by
    unfold isClose at hc
    simp only [Bool.or_eq_true, beq_iff_eq] at hc
    omega
  rcases h1 with rfl | rfl | rfl <;> rcases h2 with rfl | rfl | rfl <;> decide
end Go.Proofs.YtelfobnmiphdnaaGreatDoor
namespace Go.Proofs.YtelfobnmiphdnaaGreatDoor
set_option linter.all false
attribute [local irreducible] wpStill
open Go.RowKit

/-- A row of ints in a block: a number written. -/
theorem ints_set {W : World} {b : Nat} {p : List Int} (h : W.heap[b]? = some (.cells (p.map (Value.int .i64)).toArray 3 (0, 0))) (i : Nat) (v : Int) : (W.setCell ⟨b, i, none⟩ (.int .i64 v)).heap[b]? = some (.cells ((p.set i v).map (Value.int .i64)).toArray 3 (0, 0)) := by
  rw [heap_setCell_same _ _ _ _ _ _ h, List.setIfInBounds_toArray, ← List.map_set]
theorem ints_cell {W : World} {b : Nat} {p : List Int} (h : W.heap[b]? = some (.cells (p.map (Value.int .i64)).toArray 3 (0, 0))) {i : Nat} (hi : i < p.length) : W.cell? ⟨b, i, none⟩ = some (.int .i64 p[i]) := by
  simp [World.cell?, h, hi]
theorem ints_fz {W : World} {b : Nat} {p : List Int} (h : W.heap[b]? = some (.cells (p.map (Value.int .i64)).toArray 3 (0, 0))) (i : Nat) : W.frozen? ⟨b, i, none⟩ = false := by
  simp [World.frozen?, h]
theorem owns_empty (w : World) (B : Nat) (hB : B ≤ w.heap.size) : (w.alloc (.cells #[] 3)).ownsRow B 3 1 (.slice (some ⟨w.heap.size, 0, none⟩) 0 0) 0 [] :=
  ⟨rfl, Or.inr ⟨w.heap.size, 0, #[], rfl, hB, heap_alloc_new _ _, Nat.le_refl _, Nat.zero_le _, rfl, rfl⟩⟩
theorem owns_take {w : World} {B : Nat} {a : Option Addr} {e : TypeId} {size n cap : Nat} {xs : List Value} (h : w.ownsRow B e size (.slice a n cap) n xs) {k : Nat} (hk : k ≤ n) : w.ownsRow B e size (.slice a k cap) k (xs.take (k * size)) := by
  obtain ⟨h1, h2⟩ := h
  have hm : k * size ≤ n * size := Nat.mul_le_mul_right _ hk
  refine ⟨by rw [List.length_take]; omega, ?_⟩
  rcases h2 with ⟨hv, hn⟩ | ⟨g, cap', cur, hv, hg, hh, hnc, hcm, hcs, htk⟩
  · subst hn
    obtain rfl : k = 0 := by omega
    exact Or.inl ⟨hv, rfl⟩
  · simp only [Value.slice.injEq, true_and] at hv
    obtain ⟨rfl, rfl⟩ := hv
    refine Or.inr ⟨g, cap, cur, rfl, hg, hh, by omega, hcm, hcs, ?_⟩
    rw [← htk, List.take_take, Nat.min_eq_left hm]
theorem sortR_bd (c : Nat) : -3 ≤ sortR c ∧ sortR c ≤ 3 := by
  unfold sortR
  split
  · omega
  · split
    · omega
    · split
      · omega
      · split
        · omega
        · split
          · omega
          · split <;> omega
theorem owns_some {w : World} {B : Nat} {a : Option Addr} {e : TypeId} {size n m cap : Nat} {xs : List Value} (h : w.ownsRow B e size (.slice a m cap) n xs) (hn : 0 < n) : ∃ g, a = some ⟨g, 0, none⟩ := by
  rcases h.2 with ⟨_, h0⟩ | ⟨g, cap', cur, hv, _⟩
  · omega
  · simp only [Value.slice.injEq] at hv
    exact ⟨g, hv.1⟩
theorem ints_one (l : List Nat) : ∀ u ∈ (l.map fun (x : Nat) => Value.int .i64 (x : Int)), u.oneCell' = true := by
  intro u hu
  obtain ⟨a, _, rfl⟩ := List.mem_map.1 hu
  rfl
/-- While the partners are still laid. -/
def fillRel (n b : Nat) (w1 : World) (i : Value) (wr : World) : Prop :=
  ∃ (k : Nat) (pr : List Int), i = .int .i64 (k : Int) ∧ k ≤ n ∧ pr.length = n ∧ (∀ j, j < k → pr.getD j 0 = -1) ∧ wr.heap[b]? = some (.cells (pr.map (Value.int .i64)).toArray 3 (0, 0)) ∧ Below w1.heap.size w1 wr
/-- What holds at the second loop's head. -/
def rnRel (s : ByteArray) (L : List Tok) (R : Except (Int × Int) (List Int × Nat)) (w1 : World) (b : Nat) (op most i : Value) (wr : World) : Prop :=
  ∃ (k : Nat) (st : List Nat) (p pr : List Int) (m : Nat), i = .int .i64 (k : Int) ∧ most = .int .i64 (m : Int) ∧ k ≤ L.length ∧ st.length ≤ 100 ∧ m ≤ 100 ∧ p.length = L.length ∧ pr.length = L.length ∧
    (∀ j, j < k → pr.getD j 0 = p.getD j 0) ∧ (∀ j, k ≤ j → j < L.length → pr.getD j 0 = -1) ∧ (∀ o ∈ st, o < k ∧ closer (bch s (L.getD o (0, 0, 0))) ≠ 0) ∧ nestGo s L (L.drop k) k st p m = R ∧
    wr.heap[b]? = some (.cells (pr.map (Value.int .i64)).toArray 3 (0, 0)) ∧ wr.ownsRow (b + 1) 3 1 op st.length (st.reverse.map fun (x : Nat) => Value.int .i64 (x : Int)) ∧ Below w1.heap.size w1 wr
set_option maxRecDepth 100000 in
set_option maxHeartbeats 16000000 in
theorem ref_Nest (s : ByteArray) (hs : s.size ≤ 2147483647) (w : World) :
    Calls Tryz.prog 7 #[.string s] w (walkPost (nestAll s) w) := by
  have HQ : RowKit.Hid (∀ w' v1 v2 l p m e a, nestAll s = (l, p, m, e, a) → Below w.heap.size w w' → TokRow w' v1 l → RowInts w' v2 .i64 p → NewV w.heap.size v1 → NewV w.heap.size v2 → walkPost (nestAll s) w (.returned (.tuple #[v1, v2, .int .i64 m, .agg #[.int .i64 e, .int .i64 a]])) w') := Lib.hid fun w' v1 v2 l p m e a h h2 h3 h4 h5 h6 => by
    unfold walkPost; rw [h]; exact ⟨v1, v2, rfl, h2, h3, h4, h5, h6⟩
  have HV : RowKit.Hid (nestAll s = _) := Lib.hid (by unfold nestAll; rfl)
  have C1 := Lib.hid (fun w' => ref_Of08 s hs w')
  have CS := Lib.hid (fun k f t h1 h2 w' => ref_sort s k f t h1 h2 hs w')
  have HER := Lib.hid (@semiAll_err s)
  have HORD := Lib.hid (semiAll_ord s)
  have HLN := semiAll_len s
  generalize walkPost (nestAll s) w = Q at *
  have HF : RowKit.Hid (∀ (tm : Array Value) W' v1 v2 l p m e a, nestAll s = (l, p, m, e, a) → Below w.heap.size w W' → TokRow W' v1 l → RowInts W' v2 .i64 p → NewV w.heap.size v1 → NewV w.heap.size v2 → FK W' w.heap.size e a → tm.getD 5 undef = .pointer (some ⟨w.heap.size, 0, none⟩) → tm.getD 2 undef = v1 → tm.getD 3 undef = v2 → tm.getD 4 undef = .int .i64 m → bodyPost Tryz.prog Tryz.f7 Q .ret ⟨tm, []⟩ W') :=
    Lib.hid fun tm W' v1 v2 l p m e a h1 h2 h3 h4 n1 n2 h5 h6 h7 h8 h9 => by
      refine bodyPost_ret (results_tmp3_cell rfl tm W' w.heap.size 27 #[.int .i64 e, .int .i64 a] (0, 0) _ h6 h5 Tryz.underlying27 rfl (by kernel_rfl)) rfl ?_
      rw [h7, h8, h9]
      exact HQ.out W' v1 v2 l p m e a h1 h2 h3 h4 n1 n2
  have hT4 : FK (w.alloc (.cells #[.int .i64 0, .int .i64 0] 27)) w.heap.size 0 0 := by
    unfold FK; exact heap_alloc_new _ _
  have hbW : Below w.heap.size w (w.alloc (.cells #[.int .i64 0, .int .i64 0] 27)) := (Below.refl _ _).alloc (Nat.le_refl _) _
  have H4 := Lib.hid hT4
  have HBW := Lib.hid hbW
  clear hT4 hbW
  go_enter Tryz.func7, Tryz.ntmps7
  go_wp2_with fail
  refine (C1.out _).mono ?_
  intro e w1 h1
  unfold allPost at h1
  generalize semiAll s = q at *
  obtain ⟨L, er, ea⟩ := q
  simp only [] at *
  obtain ⟨v, rfl, hb1, ho1⟩ := h1
  have HB1 := Lib.hid (bthen HBW.out hb1)
  have HF1 := Lib.hid (H4.out.keep hb1)
  have HR1 := Lib.hid (TokRow.of_owns ho1)
  have HNV := Lib.hid ((NewV.of_owns ho1).mono (show w.heap.size + 1 ≤ (w.alloc (.cells #[.int .i64 0, .int .i64 0] 27)).heap.size by simp))
  have HA1 := Lib.hid (HB1.out.alloc HB1.out.size (.cells #[.int .i64 er, .int .i64 ea] 27))
  have HF2 := Lib.hid (HF1.out.alloc (.cells #[.int .i64 er, .int .i64 ea] 27))
  have HX : RowKit.Hid (FK (w1.alloc (.cells #[.int .i64 er, .int .i64 ea] 27)) w1.heap.size er ea) := Lib.hid (by unfold FK; exact heap_alloc_new _ _)
  obtain ⟨va, vcap, rfl, hvcap, _⟩ := HR1.out
  clear hb1 ho1 H4 HBW C1
  have x0 := HX.out.c0; have x1 := HX.out.c1
  by_cases her : er = 0
  · obtain rfl := HER.out her
    subst her
    have hv := HV.out
    rw [if_pos ⟨rfl, rfl⟩] at hv
    have hmk := make_ints L.length (by omega)
    have HV2 := Lib.hid hv
    clear hv HV
    generalize hR : nestGo s L L 0 [] (List.replicate L.length 0) 0 = R at *
    have HR0 := Lib.hid hR
    clear hR
    go_wp2_with fail
    have HP0 : RowKit.Hid (((w1.alloc (.cells #[.int .i64 0, .int .i64 0] 27)).alloc (.cells (Array.replicate L.length (Value.int .i64 0)) 3)).heap[w1.heap.size + 1]? = some (.cells ((List.replicate L.length (0 : Int)).map (Value.int .i64)).toArray 3 (0, 0))) := Lib.hid (by
      rw [List.map_replicate, List.toArray_replicate]
      have := heap_alloc_new (w1.alloc (.cells #[.int .i64 0, .int .i64 0] 27)) (.cells (Array.replicate L.length (Value.int .i64 0)) 3)
      simpa using this)
    have hx1 : Below w1.heap.size w1 ((w1.alloc (.cells #[.int .i64 0, .int .i64 0] 27)).alloc (.cells (Array.replicate L.length (Value.int .i64 0)) 3)) := ((Below.refl _ _).alloc (Nat.le_refl _) _).alloc (by simp) _
    have HX1 := Lib.hid hx1
    have hlt1 : w.heap.size < w1.heap.size := lt_of_block (show w1.heap[w.heap.size]? = _ from HF1.out)
    clear hx1 HF2 HA1 HX x0 x1
    generalize (w1.alloc (.cells #[.int .i64 0, .int .i64 0] 27)).alloc (.cells (Array.replicate L.length (Value.int .i64 0)) 3) = W0 at *
    have HLT := Lib.hid hlt1
    have HBE : RowKit.Hid (w1.heap.size < w1.heap.size + 1) := Lib.hid (Nat.lt_succ_self _)
    clear hlt1
    generalize w1.heap.size + 1 = b at *
    go_loopw [9] (fun i wr => fillRel L.length b w1 i wr) (fun i _ => L.length - (intOf i).toNat)
    case atStart => exact ⟨0, List.replicate L.length 0, rfl, Nat.zero_le _, by simp, fun j hj => by omega, HP0.out, HX1.out⟩
    case round =>
      obtain ⟨k, pr, rfl, hk, hpl, hpj, hh, hb⟩ := hrel
      have HB := Lib.hid hb
      have HH := Lib.hid hh
      have HPJ := Lib.hid hpj
      have HPL := Lib.hid hpl
      clear hb hh hpj hpl HP0 HX1
      by_cases hlt : k < L.length
      · have hlt' : (k : Int) < L.length := by omega
        have hk0 : (0 : Int) ≤ k := by omega
        have c0 := ints_cell HH.out (i := k) (by rw [HPL.out]; exact hlt)
        have z0 := ints_fz HH.out k
        have hwk : IntKind.i64.wrap ((k : Int) + 1) = ((k + 1 : Nat) : Int) := by rw [IntKind.wrap_i64]; omega
        have HML : RowKit.Hid (L.length - (k + 1) < L.length - k) := Lib.hid (by omega)
        have HRL : RowKit.Hid (fillRel L.length b w1 (.int .i64 ((k + 1 : Nat) : Int)) (wr.setCell ⟨b, k, none⟩ (.int .i64 (-1)))) := Lib.hid ⟨k + 1, pr.set k (-1), rfl, hlt, by rw [List.length_set]; exact HPL.out, fun j hj => by
          rw [getD_set _ _ _ _ (by rw [HPL.out]; exact hlt)]
          by_cases e : j = k
          · rw [if_pos e]
          · rw [if_neg e]; exact HPJ.out j (by omega), ints_set HH.out k (-1), HB.out.setCell (p := ⟨b, k, none⟩) (Nat.le_of_lt HBE.out) _⟩
        generalize pr[k]'_ = pk at c0
        go_wp2_with fail
        refine ⟨?_, (by have := HML.out; simp [intOf]; try omega)⟩
        first
          | exact HRL.out
          | (repeat apply Exists.intro
             refine ⟨?_, rfl⟩
             exact HRL.out)
      · have hlt' : ¬ (k : Int) < L.length := by omega
        have HPK : RowKit.Hid (∀ j, j < L.length → pr.getD j 0 = -1) := Lib.hid fun j hj => HPJ.out j (by omega)
        go_wp2_with fail
        go_loopw [10, 11, 12] (fun op m i wr => rnRel s L R w1 b op m i wr) (fun _ _ i _ => L.length - (intOf i).toNat)
        case atStart => exact ⟨0, [], List.replicate L.length 0, pr, 0, rfl, rfl, Nat.zero_le _, by simp, by omega, by simp, HPL.out, fun j hj => by omega, fun j _ hj => HPK.out j hj, (fun o ho => by cases ho), by rw [List.drop_zero]; exact HR0.out, HH.out, World.ownsRow_nil _ _ _ _, HB.out⟩
        case round =>
          obtain ⟨k, st, p, pq, m, rfl, rfl, hk, hsl, hm, hp, hpr, hag, hag2, hop, hgo, hh, ho, hb⟩ := hrel
          have HB := Lib.hid hb
          have HH := Lib.hid hh
          have HO := Lib.hid ho
          have HAG := Lib.hid hag
          have HAG2 := Lib.hid hag2
          have HOP := Lib.hid hop
          have HP := Lib.hid hp
          have HPR := Lib.hid hpr
          have HSL := Lib.hid hsl
          have HM := Lib.hid hm
          obtain ⟨_, oa, oc, rfl, _, _, _⟩ := Row.of_owns ho
          clear hb hh ho hag hag2 hop hp hpr hsl
          by_cases hlt : k < L.length
          · have hlt' : (k : Int) < L.length := by omega
            obtain ⟨b1, rfl, _, hcp, d0, d1, d2⟩ := HR1.out.at HB.out hlt
            have hord := ord_each HORD.out L[k] (List.getElem_mem hlt)
            rw [List.drop_eq_getElem_cons hlt, nestGo_cons] at hgo
            have hgt : L.getD k (0, 0, 0) = L[k] := by rw [List.getD_eq_getElem?_getD, List.getElem?_eq_getElem hlt]; rfl
            have HDD : RowKit.Hid (∀ W', Below w1.heap.size w1 W' → W'.cell? ⟨b1, k * 3 + 1, none⟩ = some (.int .i64 (L[k].2.1 : Nat))) := Lib.hid fun W' hb => by
              obtain ⟨b1', hb1', _, _, _, h2, _⟩ := HR1.out.at hb hlt
              simp only [Option.some.injEq, Addr.mk.injEq, and_true] at hb1'
              subst hb1'
              exact h2
            generalize L[k] = t at *
            obtain ⟨kk, ff, tt⟩ := t
            simp only [] at hord d0 d1 d2 hgo HDD
            have CS1 := fun w' => CS.out kk ff tt hord.1 hord.2 w'
            have HGT := Lib.hid hgt
            generalize hbc : bch s (kk, ff, tt) = c at *
            have HBC := Lib.hid hbc
            have HGO := Lib.hid hgo
            have CS1 := Lib.hid CS1
            have hso := @sort_open c
            have hsc := @sort_close c
            have HSP := Lib.hid (fun a ha hc => @sort_pair a c ha hc)
            have hsbd := sortR_bd c
            clear hbc hgo hgt
            generalize sortR c = sc at *
            have hk0 : (0 : Int) ≤ k := by omega
            have hkc : (k : Int) < vcap := by omega
            have hwk : IntKind.i64.wrap ((k : Int) + 1) = ((k + 1 : Nat) : Int) := by rw [IntKind.wrap_i64]; omega
            have HK1 : RowKit.Hid (k + 1 ≤ L.length) := Lib.hid hlt
            have HML : RowKit.Hid (L.length - (k + 1) < L.length - k) := Lib.hid (by omega)
            have HOL : RowKit.Hid (∀ o ∈ st, o < k ∧ closer (bch s (L.getD o (0, 0, 0))) ≠ 0) := HOP
            go_wp2_with fail
            refine (CS1.out _).mono ?_
            rintro e w2 ⟨rfl, hb2⟩
            have hB2 : Below w1.heap.size w1 w2 := HB.out.trans (hb2.mono HB.out.size)
            have HB2 := Lib.hid hB2
            have HH2 := Lib.hid (keeps hb2 HH.out)
            have HO2 := Lib.hid (owns_below HO.out hb2)
            have e1 := HDD.out w2 hB2
            have hbs : b + 1 ≤ w2.heap.size := by have := lt_of_block HH2.out; omega
            clear d0 d1 d2 hb2 hB2 HB HH HO CS1
            have hAs : ∀ v : Int, ∀ j, j < k + 1 → pq.getD j 0 = (p.set k (-1)).getD j 0 := fun _ j hj => by
              rw [getD_set _ _ _ _ (by rw [HP.out]; exact hlt)]
              by_cases e : j = k
              · rw [if_pos e, e]; exact HAG2.out k (Nat.le_refl _) hlt
              · rw [if_neg e]; exact HAG.out j (by omega)
            have HAS := Lib.hid (hAs 0)
            have HPL3 : RowKit.Hid ((p.set k (-1)).length = L.length) := Lib.hid (by rw [List.length_set]; exact HP.out)
            clear hAs
            generalize p.set k (-1) = p2 at *
            by_cases hcl : closer c ≠ 0
            · have hs1 : (0 : Int) < sc := hso.1 hcl
              have hs2 : ¬ sc < 0 := by omega
              have hgo := HGO.out
              rw [if_pos hcl] at hgo
              have HO1 : RowKit.Hid (∀ o ∈ k :: st, o < k + 1 ∧ closer (bch s (L.getD o (0, 0, 0))) ≠ 0) := Lib.hid fun o ho => by
                rcases List.mem_cons.1 ho with rfl | ho
                · rw [HGT.out, HBC.out]; exact ⟨by omega, hcl⟩
                · exact ⟨by have := (HOP.out o ho).1; omega, (HOP.out o ho).2⟩
              clear hso hsc hcl HGO
              by_cases hfull : st.length = 100
              · rw [if_pos hfull] at hgo
                have HV3 : RowKit.Hid (nestAll s = ([], [], 0, 6, (ff : Int))) := Lib.hid (by rw [HV2.out, ← hgo])
                have HF3 := Lib.hid (HF1.out.keep HB2.out)
                have z50 := HF3.out.fz 0; have z51 := HF3.out.fz 1; have c50 := HF3.out.c0; have c51 := HF3.out.c1
                have hfi : (100 : Int) ≤ (st.length : Int) := by omega
                have HB3 := Lib.hid (bthen HB1.out HB2.out)
                clear hgo hfull
                go_wp2_with fail
                go_region
                all_goals
                  go_wp2_with fail
                  exact HF.out _ _ _ _ [] [] 0 6 ff HV3.out ((below_fill2 HB3.out (Nat.le_refl _) _ _).drew) (TokRow.none _) (RowInts.none _ _) (NewV.none _) (NewV.none _) (HF3.out.fill _ _) rfl rfl rfl rfl
              · rw [if_neg hfull] at hgo
                have hfi : ¬ (100 : Int) ≤ (st.length : Int) := by have := HSL.out; omega
                have hn100 : st.length ≤ 100 := HSL.out
                have HNF : RowKit.Hid (st.length < 100) := Lib.hid (by omega)
                have HG2 := Lib.hid hgo
                clear hgo hfull
                go_wp2_with (at_builtin; refine wpList_append_lit w2 #[.int .i64 (k : Int)] _ rfl _ _ 24 3 rfl Tryz.underlying24 (b + 1) info_int rfl (by decide) _ _ _ rfl HO2.out 1 1 rfl rfl (by decide) (by intro u hu; simp at hu; subst hu; rfl) (by omega) (by omega) hbs ?_)
                intro v' w' hown hgr _
                have hb' := grown_below HB2.out HB2.out.size (owns_mono HO2.out (Nat.le_of_lt (Nat.lt_of_lt_of_le HBE.out (Nat.le_succ b)))) hgr
                have hh' : w'.heap[b]? = some (.cells (pq.map (Value.int .i64)).toArray 3 (0, 0)) := by
                  rw [hgr.block b (by have := lt_of_block HH2.out; simp; omega) (fun e => by have := HO2.out.lt b e.symm; omega), Below.heap_alloc _ _ _ (lt_of_block HH2.out)]; exact HH2.out
                have HRL : RowKit.Hid (∀ m' i', m' = .int .i64 ((max m (st.length + 1) : Nat) : Int) → i' = .int .i64 ((k + 1 : Nat) : Int) → rnRel s L R w1 b v' m' i' w') := Lib.hid (by
                  rintro _ _ rfl rfl
                  refine ⟨k + 1, k :: st, p2, pq, max m (st.length + 1), rfl, rfl, HK1.out, by have := HNF.out; simp only [List.length_cons]; omega, by have := HNF.out; have := HM.out; omega, HPL3.out, HPR.out, HAS.out, fun j h1 h2 => HAG2.out j (by omega) h2, HO1.out, HG2.out, hh', ?_, hb'⟩
                  have h := hown
                  simpa using h)
                obtain ⟨_, va', vc', rfl, _, _, _⟩ := Row.of_owns hown
                clear hown hgr hb' hh'
                go_wp2_with fail
                refine ⟨?_, (by have := HML.out; simp [intOf]; try omega)⟩
                first
                  | exact HRL.out _ _ (congrArg (Value.int .i64) (by omega)) (congrArg (Value.int .i64) (by omega))
                  | (repeat apply Exists.intro
                     refine ⟨?_, rfl⟩
                     exact HRL.out _ _ (congrArg (Value.int .i64) (by omega)) (congrArg (Value.int .i64) (by omega)))
            · have hs1 : ¬ (0 : Int) < sc := fun h => hcl (hso.2 h)
              have hgo := HGO.out
              rw [if_neg hcl] at hgo
              by_cases hic : isClose c = true
              · have hs2 : sc < 0 := hsc.1 hic
                rw [if_pos hic] at hgo
                have HIC := Lib.hid hic
                clear hso hsc hcl HGO hic
                cases st with
                | nil =>
                  simp only [] at hgo
                  have HV3 : RowKit.Hid (nestAll s = ([], [], 0, 5, (ff : Int))) := Lib.hid (by rw [HV2.out, ← hgo])
                  have HF3 := Lib.hid (HF1.out.keep HB2.out)
                  have z50 := HF3.out.fz 0; have z51 := HF3.out.fz 1; have c50 := HF3.out.c0; have c51 := HF3.out.c1
                  have HB3 := Lib.hid (bthen HB1.out HB2.out)
                  clear hgo
                  go_wp2_with fail
                  go_region
                  all_goals
                    go_wp2_with fail
                    exact HF.out _ _ _ _ [] [] 0 5 ff HV3.out ((below_fill2 HB3.out (Nat.le_refl _) _ _).drew) (TokRow.none _) (RowInts.none _ _) (NewV.none _) (NewV.none _) (HF3.out.fill _ _) rfl rfl rfl rfl
                | cons o st =>
                  simp only [] at hgo
                  have ho := HOP.out o List.mem_cons_self
                  have hol : o < L.length := by omega
                  obtain ⟨g, rfl⟩ := owns_some HO2.out (by simp)
                  have x0 : w2.cell? ⟨g, st.length, none⟩ = some (.int .i64 (o : Int)) := by
                    have := HO2.out.cellAt st.length (by simp)
                    rw [this]; simp
                  obtain ⟨b1', hb1', _, _, f0, f1, f2⟩ := HR1.out.at HB2.out hol
                  simp only [Option.some.injEq, Addr.mk.injEq, and_true] at hb1'
                  subst hb1'
                  have hgo2 : L.getD o (0, 0, 0) = L[o] := by rw [List.getD_eq_getElem?_getD, List.getElem?_eq_getElem hol]; rfl
                  have hoo := ord_each HORD.out L[o] (List.getElem_mem hol)
                  rw [hgo2] at hgo ho
                  generalize L[o] = t2 at *
                  obtain ⟨ko, fo, eo⟩ := t2
                  simp only [] at hoo f0 f1 f2 hgo ho
                  have CS2 := Lib.hid (fun w' => CS.out ko fo eo hoo.1 hoo.2 w')
                  generalize bch s (ko, fo, eo) = c2 at *
                  have hsp := HSP.out c2 ho.2 HIC.out
                  have hsb2 := sortR_bd c2
                  generalize sortR c2 = sc2 at *
                  have hol0 : (0 : Int) ≤ (st.length : Int) := by omega
                  have hw1 : IntKind.i64.wrap ((st.length : Int) + 1 - 1) = (st.length : Int) := by rw [IntKind.wrap_i64]; have := HSL.out; simp only [List.length_cons] at this; omega
                  have hst1 : (st.length : Int) < 100 := by have := HSL.out; simp only [List.length_cons] at this; omega
                  have hw1' : IntKind.i64.wrap (st.length : Int) = (st.length : Int) := by rw [IntKind.wrap_i64]; omega
                  have hw2 : IntKind.i64.wrap (sc2 + sc) = sc2 + sc := by rw [IntKind.wrap_i64]; omega
                  have hne0 : ((st.length : Int) + 1 == 0) = false := by rw [beq_eq_false_iff_ne]; omega
                  have hoi0 : (0 : Int) ≤ (o : Int) := by omega
                  have hoic : (o : Int) < vcap := by omega
                  have hoil : (o : Int) < L.length := by omega
                  have hoc2 : st.length + 1 ≤ oc := by
                    rcases HO2.out.2 with ⟨hv, hn⟩ | ⟨g', cap', cur, hv, _, _, hnc, _⟩
                    · simp at hn
                    · simp only [Value.slice.injEq] at hv; rw [hv.2.2]; simpa using hnc
                  have hocl : (st.length : Int) < oc := by omega
                  have hocl2 : (st.length : Int) < (st.length : Int) + 1 := by omega
                  have HOK : RowKit.Hid (o < k) := Lib.hid ho.1
                  clear hgo2 ho hoo
                  go_wp2_with fail
                  refine (CS2.out _).mono ?_
                  rintro e w3 ⟨rfl, hb3⟩
                  have hB3 : Below w1.heap.size w1 w3 := HB2.out.trans (hb3.mono HB2.out.size)
                  have HB3 := Lib.hid hB3
                  have HH3 := Lib.hid (keeps hb3 HH2.out)
                  have HO3 := Lib.hid (owns_below HO2.out hb3)
                  have e3 := HDD.out w3 hB3
                  have x3 : w3.cell? ⟨g, st.length, none⟩ = some (.int .i64 (o : Int)) := by
                    have := HO3.out.cellAt st.length (by simp)
                    rw [this]; simp
                  have hbs3 : b + 1 ≤ w3.heap.size := by have := lt_of_block HH3.out; omega
                  clear x0 f0 f1 f2 e1 hb3 hB3 HB2 HH2 HO2 CS2
                  by_cases hmt : closer c2 = c
                  · rw [if_pos hmt] at hgo
                    have hz : sc2 + sc = 0 := hsp.2 hmt
                    have hzb : (sc2 + sc == 0) = true := by rw [beq_iff_eq]; exact hz
                    have hzn : (sc2 + sc != 0) = false := by rw [bne_eq_false_iff_eq]; exact hz
                    have HG3 := Lib.hid hgo
                    clear hgo hmt hsp hz
                    have HOT := Lib.hid (owns_take HO3.out (k := st.length) (by simp))
                    have HE0 := Lib.hid (owns_empty w3 (b + 1) hbs3)
                    have hA3 : Below w3.heap.size w3 (w3.alloc (.cells #[] 3)) := (Below.refl _ _).alloc (Nat.le_refl _) _
                    have HRT := Lib.hid (Row.of_owns (owns_below HOT.out hA3))
                    have HB4 := Lib.hid (HB3.out.trans (hA3.mono HB3.out.size))
                    have HH4 := Lib.hid (keeps hA3 HH3.out)
                    have hn100 : st.length ≤ 100 := by have := HSL.out; simp only [List.length_cons] at this; omega
                    clear hA3
                    have hbs4 : b + 1 ≤ (w3.alloc (.cells #[] 3)).heap.size := by simp; omega
                    go_wp2_with (at_builtin; refine wpList_append_row rfl _ _ 24 3 rfl Tryz.underlying24 (b + 1) info_int rfl (by decide) _ _ _ rfl HE0.out _ _ _ rfl HRT.out (fun u hu => ints_one _ u (List.mem_of_mem_take hu)) (by omega) (by omega) hbs4 ?_)
                    intro v' w' hown hgr
                    have hb5 : Below w1.heap.size w1 w' := HB4.out.grown hgr (by have := HB3.out.size; simp; omega) (fun x hx => by have := HB3.out.size; simp [Value.ownBlock] at hx; omega)
                    have hb3lt : b < w3.heap.size := lt_of_block HH3.out
                    have hh5 : w'.heap[b]? = some (.cells (pq.map (Value.int .i64)).toArray 3 (0, 0)) := by
                      rw [hgr.block b (by simp; omega) (fun e => by simp [Value.ownBlock] at e; omega)]; exact HH4.out
                    have hkpq : k < pq.length := by rw [HPR.out]; exact hlt
                    have hopq : o < pq.length := by rw [HPR.out]; exact hol
                    have c0 := ints_cell hh5 hkpq
                    have zf0 := ints_fz hh5 k
                    have hh6 := ints_set hh5 k (o : Int)
                    have c1 := ints_cell hh6 (i := o) (by rw [List.length_set]; exact hopq)
                    have zf1 := ints_fz hh6 o
                    have HRL : RowKit.Hid (rnRel s L R w1 b v' (.int .i64 (m : Int)) (.int .i64 ((k + 1 : Nat) : Int)) ((w'.setCell ⟨b, k, none⟩ (.int .i64 (o : Int))).setCell ⟨b, o, none⟩ (.int .i64 (k : Int)))) := Lib.hid (by
                      refine ⟨k + 1, st, (p2.set k (o : Int)).set o (k : Int), (pq.set k (o : Int)).set o (k : Int), m, rfl, rfl, HK1.out, by omega, HM.out, by rw [List.length_set, List.length_set]; exact HPL3.out, by rw [List.length_set, List.length_set]; exact HPR.out, fun j hj => ?_, fun j h1 h2 => ?_, (fun x hx => ⟨by have := (HOP.out x (List.mem_cons_of_mem _ hx)).1; omega, (HOP.out x (List.mem_cons_of_mem _ hx)).2⟩), HG3.out, ints_set hh6 o (k : Int), ?_, ((hb5.setCell (p := ⟨b, k, none⟩) (Nat.le_of_lt HBE.out) _).setCell (p := ⟨b, o, none⟩) (Nat.le_of_lt HBE.out) _)⟩
                      · rw [getD_set _ _ _ _ (by rw [List.length_set, HPR.out]; exact hol), getD_set _ _ _ _ (by rw [HPR.out]; exact hlt), getD_set _ _ _ _ (by rw [List.length_set, HPL3.out]; exact hol), getD_set _ _ _ _ (by rw [HPL3.out]; exact hlt), HAS.out j hj]
                      · have := HOK.out
                        rw [getD_set _ _ _ _ (by rw [List.length_set, HPR.out]; exact hol), if_neg (by omega), getD_set _ _ _ _ (by rw [HPR.out]; exact hlt), if_neg (by omega)]
                        exact HAG2.out j (by omega) h2
                      · have h := ownsRow_setCell_below (ownsRow_setCell_below hown (a := ⟨b, k, none⟩) (Nat.lt_succ_self b) (.int .i64 (o : Int))) (a := ⟨b, o, none⟩) (Nat.lt_succ_self b) (.int .i64 (k : Int))
                        simpa [List.take_append] using h)
                    generalize pq[k]'_ = y0 at c0
                    generalize (pq.set k (o : Int))[o]'_ = y1 at c1
                    obtain ⟨_, va', vc', rfl, _, _, _⟩ := Row.of_owns hown
                    have hkL : (k : Int) < L.length := by omega
                    have hoL : (o : Int) < L.length := by omega
                    clear hown hgr hb5 hh5 hh6 e3 x3
                    go_wp2_with fail
                    refine ⟨?_, (by have := HML.out; simp [intOf]; try omega)⟩
                    first
                      | exact HRL.out
                      | (repeat apply Exists.intro
                         refine ⟨?_, rfl⟩
                         exact HRL.out)
                  · rw [if_neg hmt] at hgo
                    have hz : sc2 + sc ≠ 0 := fun h => hmt (hsp.1 h)
                    have hzb : (sc2 + sc == 0) = false := by rw [beq_eq_false_iff_ne]; exact hz
                    have hzn : (sc2 + sc != 0) = true := by rw [bne_iff_ne]; exact hz
                    have HV3 : RowKit.Hid (nestAll s = ([], [], 0, 5, (ff : Int))) := Lib.hid (by rw [HV2.out, ← hgo])
                    have HF3 := Lib.hid (HF1.out.keep HB3.out)
                    have z50 := HF3.out.fz 0; have z51 := HF3.out.fz 1; have c50 := HF3.out.c0; have c51 := HF3.out.c1
                    have HB5 := Lib.hid (bthen HB1.out HB3.out)
                    clear hgo hmt hsp hz
                    go_wp2_with fail
                    go_region
                    all_goals
                      go_wp2_with fail
                      exact HF.out _ _ _ _ [] [] 0 5 ff HV3.out ((below_fill2 HB5.out (Nat.le_refl _) _ _).drew) (TokRow.none _) (RowInts.none _ _) (NewV.none _) (NewV.none _) (HF3.out.fill _ _) rfl rfl rfl rfl
              · have hs2 : ¬ sc < 0 := fun h => hic (hsc.2 h)
                rw [if_neg hic] at hgo
                have HRL : RowKit.Hid (rnRel s L R w1 b (.slice oa st.length oc) (.int .i64 (m : Int)) (.int .i64 ((k + 1 : Nat) : Int)) w2) := Lib.hid ⟨k + 1, st, p2, pq, m, rfl, rfl, HK1.out, HSL.out, HM.out, HPL3.out, HPR.out, HAS.out, fun j h1 h2 => HAG2.out j (by omega) h2, (fun o ho => ⟨by have := (HOP.out o ho).1; omega, (HOP.out o ho).2⟩), hgo, HH2.out, HO2.out, HB2.out⟩
                clear hso hsc hcl HGO hic hgo
                go_wp2_with fail
                refine ⟨?_, (by have := HML.out; simp [intOf]; try omega)⟩
                first
                  | exact HRL.out
                  | (repeat apply Exists.intro
                     refine ⟨?_, rfl⟩
                     exact HRL.out)
          · have hlt' : ¬ (k : Int) < L.length := by omega
            rw [List.drop_of_length_le (by omega)] at hgo
            cases st with
            | nil =>
              rw [nestGo] at hgo
              have hpp : pq = p := by
                apply List.ext_getElem
                · rw [HPR.out, HP.out]
                · intro j h1 h2
                  have := HAG.out j (by rw [HPR.out] at h1; omega)
                  rw [List.getD_eq_getElem?_getD, List.getD_eq_getElem?_getD, List.getElem?_eq_getElem h1, List.getElem?_eq_getElem h2] at this
                  simpa using this
              have HV3 : RowKit.Hid (nestAll s = (L, p, (m : Int), 0, 0)) := Lib.hid (by rw [HV2.out, ← hgo])
              have HF3 := Lib.hid (HF1.out.keep HB.out)
              have z50 := HF3.out.fz 0; have z51 := HF3.out.fz 1; have c50 := HF3.out.c0; have c51 := HF3.out.c1
              have HB3 := Lib.hid (bthen HB1.out HB.out)
              have HNA := Lib.hid (HR1.out.below HB.out)
              have hh := HH.out
              rw [hpp] at hh
              have HRP : RowKit.Hid (RowInts wr (.slice (some ⟨b, 0, none⟩) L.length L.length) .i64 p) := Lib.hid (by
                refine ⟨by simp, _, _, by rw [HP.out], by rw [HP.out]; exact Nat.le_refl _, by simp, fun hn => ⟨b, 0, rfl, lt_of_block hh, fun i hi => ?_⟩⟩
                have hi' : i < p.length := by omega
                rw [Nat.zero_add, ints_cell hh hi']
                simp [hi'])
              have HN2' : RowKit.Hid (NewV (w.heap.size + 1) (.slice (some ⟨b, 0, none⟩) L.length L.length)) := Lib.hid (fun x e => by
                simp [Value.ownBlock] at e; have := HLT.out; have := HBE.out; omega)
              clear hgo hh hpp
              go_wp2_with fail
              exact HF.out _ _ _ _ L p m 0 0 HV3.out (below_fill2 HB3.out (Nat.le_refl _) _ _) ((HNA.out.setCell (HNV.out.ne (by simp)) _).setCell (HNV.out.ne (by simp)) _) ((HRP.out.setCell (HN2'.out.ne (by simp)) _).setCell (HN2'.out.ne (by simp)) _) (HNV.out.mono (by omega)) (HN2'.out.mono (by omega)) (HF3.out.fill _ _) rfl rfl rfl rfl
            | cons o st =>
              rw [nestGo] at hgo
              have ho := HOP.out o List.mem_cons_self
              obtain ⟨g, rfl⟩ := owns_some HO.out (by simp)
              have x0 : wr.cell? ⟨g, st.length, none⟩ = some (.int .i64 (o : Int)) := by
                have := HO.out.cellAt st.length (by simp)
                rw [this]; simp
              obtain ⟨b1, rfl, _, hcp, e0, e1, e2⟩ := HR1.out.at HB.out (show o < L.length by omega)
              have hgo2 : L.getD o (0, 0, 0) = L[o] := by rw [List.getD_eq_getElem?_getD, List.getElem?_eq_getElem (by omega)]; rfl
              rw [hgo2] at hgo
              generalize L[o] = t2 at *
              obtain ⟨ko, fo, eo⟩ := t2
              simp only [] at e0 e1 e2 hgo
              have HV3 : RowKit.Hid (nestAll s = ([], [], 0, 5, (fo : Int))) := Lib.hid (by rw [HV2.out, ← hgo])
              have HF3 := Lib.hid (HF1.out.keep HB.out)
              have z50 := HF3.out.fz 0; have z51 := HF3.out.fz 1; have c50 := HF3.out.c0; have c51 := HF3.out.c1
              have HB3 := Lib.hid (bthen HB1.out HB.out)
              have hol0 : (0 : Int) ≤ (st.length : Int) := by omega
              have hoc2 : st.length + 1 ≤ oc := by
                rcases HO.out.2 with ⟨hv, hn⟩ | ⟨g', cap', cur, hv, _, _, hnc, _⟩
                · simp at hn
                · simp only [Value.slice.injEq] at hv; rw [hv.2.2]; simpa using hnc
              have hocl : (st.length : Int) < oc := by omega
              have hst1 : (st.length : Int) < 100 := by have := HSL.out; simp only [List.length_cons] at this; omega
              have hw1 : IntKind.i64.wrap ((st.length : Int) + 1 - 1) = (st.length : Int) := by rw [IntKind.wrap_i64]; omega
              have hw1' : IntKind.i64.wrap (st.length : Int) = (st.length : Int) := by rw [IntKind.wrap_i64]; omega
              have hgt0 : (0 : Int) < (st.length : Int) + 1 := by omega
              have hocl2 : (st.length : Int) < (st.length : Int) + 1 := by omega
              have hoi0 : (0 : Int) ≤ (o : Int) := by omega
              have hoic : (o : Int) < vcap := by omega
              have hoil : (o : Int) < L.length := by omega
              clear hgo hgo2 ho
              go_wp2_with fail
              go_region
              all_goals
                go_wp2_with fail
                exact HF.out _ _ _ _ [] [] 0 5 fo HV3.out ((below_fill2 HB3.out (Nat.le_refl _) _ _).drew) (TokRow.none _) (RowInts.none _ _) (NewV.none _) (NewV.none _) (HF3.out.fill _ _) rfl rfl rfl rfl
  · have hv := HV.out
    rw [if_neg (fun h => her h.1)] at hv
    have HV2 := Lib.hid hv
    have hern : (er != 0) = true := by simpa using her
    have herb : (er == 0) = false := by rw [beq_eq_false_iff_ne]; exact her
    clear hv HV
    have z50 := HF2.out.fz 0; have z51 := HF2.out.fz 1; have c50 := HF2.out.c0; have c51 := HF2.out.c1
    go_wp2_with fail
    generalize w1.alloc (.cells #[.int .i64 er, .int .i64 ea] 27) = W0 at *
    go_region
    all_goals
      go_wp2_with fail
      exact HF.out _ _ _ _ [] [] 0 er ea HV2.out ((below_fill2 HA1.out (Nat.le_refl _) _ _).drew) (TokRow.none _) (RowInts.none _ _) (NewV.none _) (NewV.none _) (HF2.out.fill _ _) rfl rfl rfl rfl
end Go.Proofs.YtelfobnmiphdnaaGreatDoor
namespace Go.Proofs.YtelfobnmiphdnaaGreatDoor
set_option linter.all false
attribute [local irreducible] Calls
open Go.RowKit

theorem nestAll_bd (s : ByteArray) : (nestAll s).1.length ≤ 65537 ∧ (nestAll s).2.1.length ≤ 65537 := by
  have h := semiAll_len s
  unfold nestAll
  split
  · cases hr : nestGo s (semiAll s).1 (semiAll s).1 0 [] (List.replicate (semiAll s).1.length 0) 0 with
    | ok q =>
      have := (nestGo_inv s (semiAll s).1 (semiAll s).1 0 [] _ 0 q (by omega) (NInv.start _) hr).len
      exact ⟨h, by show q.1.length ≤ _; omega⟩
    | error q => exact ⟨Nat.zero_le _, Nat.zero_le _⟩
  · exact ⟨Nat.zero_le _, Nat.zero_le _⟩
set_option maxRecDepth 100000 in
set_option maxHeartbeats 8000000 in
theorem NestPairs_walk (s : ByteArray) (hs : s.size ≤ 1048576) (w : World) (hT : Tabs w) (hM : MaxC w) :
    Calls Tryz.prog 3 #[.string s] w fun e w' => e = .returned (.bool true) ∧ Below w.heap.size w w' := by
  have HQ : RowKit.Hid (∀ w', Below w.heap.size w w' → (fun (e : Ending) w' => e = .returned (.bool true) ∧ Below w.heap.size w w') (.returned (.bool true)) w') := Lib.hid fun w' h => ⟨rfl, h⟩
  generalize (fun (e : Ending) w' => e = .returned (.bool true) ∧ Below w.heap.size w w') = Q at *
  have C1 := Lib.hid (nest_Of s (by omega) w hT hM)
  have CF := Lib.hid (fun w' (hb : Below w.heap.size w w') => law09_fixed w' (hT.below hb) (hM.below hb))
  have C2 := Lib.hid (fun w' (hb : Below w.heap.size w w') => nest_Depth s (by omega) w' (hT.below hb) (hM.below hb))
  have C3 := Lib.hid (fun w' => ref_Nest s (by omega) w')
  obtain ⟨hl1, hl2⟩ := nestAll_bd s
  by_cases hbig : 2000 < s.size
  · have hbig' : (2000 : Int) < s.size := by omega
    clear hl1 hl2
    go_enter Tryz.func3, Tryz.ntmps3
    go_wp2_with fail
    refine (CF.out _ (Below.refl _ _)).mono ?_
    rintro e w4 ⟨rfl, hb4⟩
    go_wp2_with fail
    show Q (.returned (.bool true)) _
    exact HQ.out _ hb4
  · have hbig' : ¬ (2000 : Int) < s.size := by omega
    go_enter Tryz.func3, Tryz.ntmps3
    go_wp2_with fail
    refine C1.out.mono ?_
    intro e w1 h1
    unfold nofPost at h1
    generalize hq : nestAll s = q at *
    obtain ⟨L, p, m, er, ea⟩ := q
    simp only [] at h1 hl1 hl2
    obtain ⟨v1, v2, rfl, hb1, hr1, hp1, _, _⟩ := h1
    have HB1 := Lib.hid hb1
    have HP1 := Lib.hid hp1
    have HR1 := Lib.hid hr1
    obtain ⟨va, vcap, rfl, _, _⟩ := hr1
    obtain ⟨pa, pcap, rfl, _, _⟩ := hp1.open'
    have HF1 : RowKit.Hid (FK (w1.alloc (.cells #[.int .i64 er, .int .i64 ea] 27)) w1.heap.size er ea) := Lib.hid (by unfold FK; exact heap_alloc_new _ _)
    have HA1 : RowKit.Hid (Below w1.heap.size w1 (w1.alloc (.cells #[.int .i64 er, .int .i64 ea] 27))) := Lib.hid ((Below.refl _ _).alloc (Nat.le_refl _) _)
    clear hb1 hp1 hq C1
    go_wp2_with fail
    refine (C2.out _ (bthen HB1.out HA1.out)).mono ?_
    intro e w2 h2
    unfold depthPost at h2
    obtain ⟨rfl, hb2⟩ := h2
    have HA2 := Lib.hid (bthen HA1.out hb2)
    have HF2 := Lib.hid ((HF1.out.keep hb2).alloc (.cells #[.int .i64 er, .int .i64 ea] 27))
    have HG2 : RowKit.Hid (FK (w2.alloc (.cells #[.int .i64 er, .int .i64 ea] 27)) w2.heap.size er ea) := Lib.hid (by unfold FK; exact heap_alloc_new _ _)
    have HX2 := Lib.hid (HA2.out.alloc HA2.out.size (.cells #[.int .i64 er, .int .i64 ea] 27))
    clear hb2 HF1 HA1 C2
    go_wp2_with fail
    refine (C3.out _).mono ?_
    intro e w3 h3
    unfold walkPost at h3
    obtain ⟨v3, v4, rfl, hb3, hr3, hp3, _, _⟩ := h3
    simp only [] at hr3 hp3
    have HR3 := Lib.hid hr3
    have HP3 := Lib.hid hp3
    obtain ⟨ma, mcap, rfl, _, _⟩ := hr3
    obtain ⟨qa, qcap, rfl, _, _⟩ := hp3.open'
    have HX3 := Lib.hid (bthen HX2.out hb3)
    have HF3 := Lib.hid ((HF2.out.keep hb3).alloc (.cells #[.int .i64 er, .int .i64 ea] 27))
    have HG3 := Lib.hid ((HG2.out.keep hb3).alloc (.cells #[.int .i64 er, .int .i64 ea] 27))
    have HK3 : RowKit.Hid (FK (w3.alloc (.cells #[.int .i64 er, .int .i64 ea] 27)) w3.heap.size er ea) := Lib.hid (by unfold FK; exact heap_alloc_new _ _)
    have HY3 : RowKit.Hid (Below w3.heap.size w3 (w3.alloc (.cells #[.int .i64 er, .int .i64 ea] 27))) := Lib.hid ((Below.refl _ _).alloc (Nat.le_refl _) _)
    have HX4 := Lib.hid (HX3.out.alloc HX3.out.size (.cells #[.int .i64 er, .int .i64 ea] 27))
    clear hb3 hp3 HF2 HG2 HA2 HX2 C3
    go_wp2_with fail
    refine (CF.out _ (bthen HB1.out HX4.out)).mono ?_
    rintro e w4 ⟨rfl, hb4⟩
    have HY4 := Lib.hid (bthen HY3.out hb4)
    have HX5 := Lib.hid (bthen HX4.out hb4)
    have HF4 := Lib.hid (HF3.out.keep hb4)
    have HG4 := Lib.hid (HG3.out.keep hb4)
    have HK4 := Lib.hid (HK3.out.keep hb4)
    have HB4 := Lib.hid (bthen HB1.out HX5.out)
    have CS := Lib.hid (ref_Same07 (.slice va L.length vcap) (.slice ma L.length mcap) L (by omega) w4 (HR1.out.below HX5.out) (HR3.out.below HY4.out))
    have CI := Lib.hid (fun w' (hb : Below w4.heap.size w4 w') => ref_Ints (.slice pa p.length pcap) (.slice qa p.length qcap) p p (by omega) (by omega) w' (HP1.out.below (bthen HX5.out hb)) (HP3.out.below (bthen HY4.out hb)))
    have f0 := HF4.out.c0; have f1 := HF4.out.c1
    have g0 := HG4.out.c0; have g1 := HG4.out.c1
    have k0 := HK4.out.c0; have k1 := HK4.out.c1
    clear hb4 HF3 HG3 HK3 HX3 HX4 HY3
    go_wp2_with fail
    refine CS.out.mono ?_
    rintro e w5 ⟨rfl, hb5⟩
    have HB5 := Lib.hid (bthen HB4.out hb5)
    have CI2 := CI.out w5 hb5
    simp only [decide_true] at CI2
    have CI2 := Lib.hid CI2
    clear hb5 CI CS f0 f1 g0 g1 k0 k1 HF4 HG4 HK4
    go_wp2_with fail
    refine CI2.out.mono ?_
    rintro e w6 ⟨rfl, hb6⟩
    have HB6 := Lib.hid (bthen HB5.out hb6)
    clear hb6
    go_wp2_with fail
    show Q (.returned (.bool true)) _
    exact HQ.out _ HB6.out
end Go.Proofs.YtelfobnmiphdnaaGreatDoor
