/- Semicolons written out, in plain Lean: the text in which the tokens stand with a blank before each has the same tokens. -/
import Derived.Test.YtcnkcnalabjhgaaDoorComP
namespace Go.Proofs.YtcnkcnalabjhgaaDoor
set_option linter.all false

def spS : ByteArray := ⟨#[32]⟩
/-- The tokens' texts, a blank before each. -/
def wrR (s : ByteArray) : List Tok → ByteArray
  | [] => ByteArray.empty
  | t :: r => (spS ++ txt s t) ++ wrR s r
/-- Where they stand then. -/
def posR (s : ByteArray) : Nat → List Tok → List Tok
  | _, [] => []
  | a, t :: r => (t.1, a + 1, a + 1 + (txt s t).size) :: posR s (a + 1 + (txt s t).size) r
/-- May the text end a line behind the tokens? -/
def fin (s : ByteArray) : Bool → List Tok → Bool
  | en, [] => en
  | _, t :: r => fin s (endsK t.1 (txt s t)) r
/-- A token that stands for itself. -/
def goodT (s : ByteArray) (t : Tok) : Prop := t.1 = 9 ∨ (t.1 ≠ 9 ∧ lex s t.2.1 = (t.1, (t.2.2 : Int)) ∧ cleanZ s t.2.1 < 0 ∧ cleanZ s t.2.2 < 0 ∧ t.2.1 < t.2.2 ∧ t.2.2 ≤ s.size ∧ silentK t.1 = false ∧ t.1 ≠ 0)
theorem ends9 (t : ByteArray) : endsK 9 t = false := by
  unfold endsK
  rw [if_neg (by omega), if_neg (by omega), if_neg (by omega)]
theorem ends_txt (s : ByteArray) (t : Tok) : endsK t.1 (txt s t) = endsK t.1 (s.extract t.2.1 t.2.2) := by
  unfold txt
  by_cases h : t.1 = 9
  · rw [if_pos h, h, ends9, ends9]
  · rw [if_neg h]
theorem semiRec_fin (s : ByteArray) : ∀ (l : List Tok) (en : Option Nat), fin s en.isSome (semiRec s en l) = false
  | [], none => rfl
  | [], some e => by show fin s _ [(9, e, e)] = false; rw [fin, fin]; exact ends9 _
  | t :: r, en => by
    rw [semiRec]
    by_cases hs : silentK t.1 = true
    · rw [if_pos hs]
      by_cases hn : hasNl s t = true
      · rw [if_pos hn]
        have ih := semiRec_fin s r none
        cases en with
        | none => exact ih
        | some e =>
          show fin s _ ((9, e, e) :: semiRec s none r) = false
          rw [fin, show endsK ((9 : Int), e, e).1 (txt s (9, e, e)) = false from ends9 _]
          exact ih
      · rw [if_neg hn]; exact semiRec_fin s r en
    · rw [if_neg hs, fin, ends_txt]
      have ih := semiRec_fin s r (if endsK t.1 (s.extract t.2.1 t.2.2) then some t.2.2 else none)
      have e : (if endsK t.1 (s.extract t.2.1 t.2.2) = true then some t.2.2 else none).isSome = endsK t.1 (s.extract t.2.1 t.2.2) := by
        cases endsK t.1 (s.extract t.2.1 t.2.2) <;> rfl
      rw [e] at ih
      exact ih
theorem semiRec_mem (s : ByteArray) : ∀ (l : List Tok) (en : Option Nat), ∀ t ∈ semiRec s en l, t.1 = 9 ∨ (t ∈ l ∧ silentK t.1 = false)
  | [], none => by intro t ht; cases ht
  | [], some e => by
    intro t ht
    have : t = (9, e, e) := by simpa [semiRec, flushL] using ht
    subst this; exact Or.inl rfl
  | x :: r, en => by
    intro t ht
    rw [semiRec] at ht
    have up : (t.1 = 9 ∨ (t ∈ r ∧ silentK t.1 = false)) → (t.1 = 9 ∨ (t ∈ x :: r ∧ silentK t.1 = false)) := fun h => h.imp id (fun h => ⟨List.mem_cons_of_mem _ h.1, h.2⟩)
    by_cases hs : silentK x.1 = true
    · rw [if_pos hs] at ht
      by_cases hn : hasNl s x = true
      · rw [if_pos hn] at ht
        rcases List.mem_append.1 ht with ht | ht
        · cases en with
          | none => cases ht
          | some e =>
            have : t = (9, e, e) := by simpa [flushL] using ht
            subst this; exact Or.inl rfl
        · exact up (semiRec_mem s r none t ht)
      · rw [if_neg hn] at ht
        exact up (semiRec_mem s r en t ht)
    · rw [if_neg hs] at ht
      rcases List.mem_cons.1 ht with rfl | ht
      · exact Or.inr ⟨List.mem_cons_self, by simpa using hs⟩
      · exact up (semiRec_mem s r _ t ht)
theorem alls_lex (s : ByteArray) (i : Nat) (hc : cleanZ s i < 0) : ∀ t ∈ (alls s i).1, lex s t.2.1 = (t.1, (t.2.2 : Int)) ∧ cleanZ s t.2.1 < 0 ∧ cleanZ s t.2.2 < 0 := by
  by_cases h : i < s.size
  · by_cases hk : (lex s i).1 = 0
    · rw [alls_bad h hk]; intro t ht; cases ht
    · obtain ⟨e, h1, h2, h3⟩ := lex_gt s i h hk
      have hce := lex_clean s i h hc e hk h1
      have hl : lex s i = ((lex s i).1, (e : Int)) := by rw [← h1]
      rw [alls_step h hl hk]
      intro t ht
      rcases List.mem_cons.1 ht with rfl | ht
      · exact ⟨hl, hc, hce⟩
      · exact alls_lex s e hce t ht
  · rw [alls_end h]; intro t ht; cases ht
termination_by s.size - i
decreasing_by omega
theorem lex_semi {u : ByteArray} {b : Nat} (hb : b < u.size) (h : bt u b = 59) : lex u b = (9, ((b + 1 : Nat) : Int)) := by
  have hr := rd_ascii hb (by omega)
  rw [h] at hr
  have hl : letter ((59 : Nat) : Int) = false := by unfold letter; decide +kernel
  unfold lex
  rw [hr, if_neg (by decide), if_neg (by decide), if_neg (fun g => by omega), if_neg (fun g => by omega)]
  simp only []
  rw [if_neg (by rw [hl]; decide), if_pos h]
theorem bom_kind {s : ByteArray} {i : Nat} (h : (rd s i).1 = 65279) : (lex s i).1 = 10 := by
  unfold lex; rw [if_pos h]
theorem txt_size {s : ByteArray} {t : Tok} (h : goodT s t) : 0 < (txt s t).size := by
  unfold txt
  rcases h with h | ⟨h, _, _, _, h1, h2, _⟩
  · rw [if_pos h]; decide
  · rw [if_neg h, piece_size (by omega) h2]; omega
theorem wr_main (s : ByteArray) : ∀ (T : List Tok), (∀ t ∈ T, goodT s t) → ∀ (x u : ByteArray), u = x ++ wrR s T →
    cleanZ u x.size < 0 ∧ (alls u x.size).2 = none ∧ (x.size = u.size ∨ (x.size < u.size ∧ blankB (bt u x.size) = true)) ∧ (∀ en : Option Nat, fin s en.isSome T = false → semiRec u en (alls u x.size).1 = posR s x.size T) ∧ (posR s x.size T).map (tx u) = T.map (tx s)
  | [], _, x, u, hu => by
    have hus : u.size = x.size := by rw [hu, ByteArray.size_append]; rfl
    have hcl : cleanZ u x.size < 0 := by rw [clean_end (by omega)]; decide
    refine ⟨hcl, by rw [alls_end (by omega)], Or.inl hus.symm, fun en h => ?_, rfl⟩
    rw [alls_end (by omega)]
    cases en with
    | none => rfl
    | some e => cases h
  | t :: r, hg, x, u, hu => by
    have hgt := hg t List.mem_cons_self
    have hn0 := txt_size hgt
    have hu2 : u = (x ++ (spS ++ txt s t)) ++ wrR s r := by rw [hu]; simp only [wrR, ByteArray.append_assoc]
    obtain ⟨i1, i2, i3, i4, i5⟩ := wr_main s r (fun t ht => hg t (List.mem_cons_of_mem _ ht)) (x ++ (spS ++ txt s t)) u hu2
    have hsp : spS.size = 1 := rfl
    have hxs : (x ++ (spS ++ txt s t)).size = x.size + 1 + (txt s t).size := by rw [ByteArray.size_append, ByteArray.size_append, hsp]; omega
    have hus : x.size + 1 + (txt s t).size ≤ u.size := by rw [hu2, ByteArray.size_append, hxs]; omega
    rw [hxs] at i1 i2 i3 i4 i5
    have hb32 : bt u x.size = 32 := by
      have hu3 : u = x ++ (spS ++ (txt s t ++ wrR s r)) := by rw [hu2]; simp only [ByteArray.append_assoc]
      have := bt_right x (spS ++ (txt s t ++ wrR s r)) 0
      rw [← hu3, Nat.add_zero, bt_left _ _ 0 (by rw [hsp]; omega)] at this
      rw [this]; rfl
    have hpe : u.extract (x.size + 1) (x.size + 1 + (txt s t).size) = txt s t := by
      have hu3 : u = (x ++ spS) ++ (txt s t ++ wrR s r) := by rw [hu2]; simp only [ByteArray.append_assoc]
      have := extract_mid (x ++ spS) (txt s t) (wrR s r) _ rfl
      rw [← hu3, ByteArray.size_append, hsp] at this
      exact this
    generalize hN : (txt s t).size = n at *
    have hbl : blankB (bt u x.size) = true := by rw [hb32]; rfl
    -- the token itself
    have hkey : lex u (x.size + 1) = (t.1, ((x.size + 1 + n : Nat) : Int)) ∧ cleanZ u (x.size + 1) < 0 ∧ silentK t.1 = false ∧ t.1 ≠ 0 ∧ t.1 ≠ 10 := by
      rcases hgt with h9 | ⟨h9, hl, hc1, hc2, hft, hts, hsil, hk0⟩
      · have ht : txt s t = semS := by unfold txt; rw [if_pos h9]
        rw [ht] at hN hpe
        have hn1 : n = 1 := by rw [← hN]; rfl
        subst hn1
        have hb : bt u (x.size + 1) = 59 := by
          have := piece_bt (s := u) (i := x.size + 1) (e := x.size + 1 + 1) (j := 0) (by omega) hus
          rw [hpe, Nat.add_zero] at this
          rw [← this]; rfl
        refine ⟨by rw [h9]; exact lex_semi (by omega) hb, clean_ascii (by omega) (by omega) (by omega) i1, by rw [h9]; rfl, by rw [h9]; decide, by rw [h9]; decide⟩
      · have ht : txt s t = s.extract t.2.1 t.2.2 := by unfold txt; rw [if_neg h9]
        have hn : n = t.2.2 - t.2.1 := by rw [← hN, ht, piece_size (by omega) hts]
        rw [ht] at hpe
        have hS : SameAt s t.2.1 u (x.size + 1) n := ⟨by omega, hus, by rw [hpe, show t.2.1 + n = t.2.2 by omega], i3⟩
        have h10 : t.1 ≠ 10 := fun g => by rw [g] at hsil; cases hsil
        have h11 : t.1 ≠ 11 := fun g => by rw [g] at hsil; cases hsil
        have hlu := lex_same (n := n) hS (by omega) (Nat.le_refl _) (by rw [hl]; exact hk0) (by rw [hl]; exact h10) (fun g => by rw [hl] at g; exact absurd g h11) (by rw [hl]; show (t.2.2 : Int) = _; omega)
        rw [hl] at hlu
        refine ⟨hlu, ?_, hsil, hk0, h10⟩
        have hgood := clean_good hc1 (by omega)
        have := clean_put (u := u) (a := x.size + 1) (b := x.size + 1 + n) (by omega) hus i1 (fun g => by
          exfalso
          rw [hpe] at g
          have hr := rd_of_piece (s := s) (i := t.2.1) (e := t.2.2) (j := 0) (by omega) hts (by omega) (by
            have := rd_pos (s := s.extract t.2.1 t.2.2) (i := 0) (by omega); exact this.1)
          rw [Nat.add_zero] at hr
          rw [← hr] at g
          have := bom_kind g
          rw [hl] at this
          exact h10 this) 0 (by omega) (by
          rw [hpe]
          exact piece_clean (by omega) hts hc2 0 (by omega) hc1)
        exact this
    obtain ⟨hl, hcl, hsil, hk0, h10⟩ := hkey
    have hnb : ¬ (x.size + 1 < u.size ∧ blankB (bt u (x.size + 1)) = true) := fun g => by
      have := lex_blank g.1 g.2
      rw [hl] at this
      simp only [Prod.mk.injEq] at this
      exact h10 this.1
    have hbt : blankTo u x.size = x.size + 1 := by rw [blankTo, if_pos ⟨by omega, hbl⟩, blankTo, if_neg hnb]
    have hlb := lex_blank (u := u) (a := x.size) (by omega) hbl
    rw [hbt] at hlb
    have hst := alls_step (s := u) (i := x.size) (by omega) hlb (by decide)
    have hst2 := alls_step (s := u) (i := x.size + 1) (by omega) hl hk0
    rw [hst2] at hst
    rw [hst]
    refine ⟨clean_ascii (by omega) (by omega) (by omega) hcl, i2, Or.inr ⟨by omega, hbl⟩, fun en hfin => ?_, ?_⟩
    · simp only []
      have hno : hasNl u ((10 : Int), x.size, x.size + 1) = false := hasNl_no (by omega) (fun j j1 j2 => by
        obtain rfl : j = x.size := by omega
        omega)
      rw [semiRec, if_pos (by rfl), hno, if_neg (by decide), semiRec, if_neg (by simp only []; rw [hsil]; decide), posR, hN]
      simp only []
      rw [hpe]
      rw [fin] at hfin
      rw [i4 _ (by
        have e : (if endsK t.1 (txt s t) = true then some (x.size + 1 + n) else none).isSome = endsK t.1 (txt s t) := by
          cases endsK t.1 (txt s t) <;> rfl
        rw [e]; exact hfin)]
    · rw [posR, hN, List.map_cons, List.map_cons, i5]
      congr 1
      unfold tx
      simp only []
      congr 1
      unfold txt at hpe ⊢
      by_cases h9 : t.1 = 9
      · simp only [if_pos h9]
      · simp only [if_neg h9] at hpe ⊢; exact hpe
theorem posR_pos (s : ByteArray) : ∀ (T : List Tok) (a : Nat), (∀ t ∈ T, goodT s t) → ∀ t ∈ posR s a T, t.2.1 < t.2.2
  | [], _, _ => by intro t ht; cases ht
  | x :: r, a, h => by
    intro t ht
    rw [posR] at ht
    rcases List.mem_cons.1 ht with rfl | ht
    · have := txt_size (h x List.mem_cons_self)
      simp only []; omega
    · exact posR_pos s r _ (fun t ht => h t (List.mem_cons_of_mem _ ht)) t ht
theorem txt_le {s : ByteArray} {t : Tok} (h1 : t.2.1 < t.2.2) (h2 : t.2.2 ≤ s.size) : (txt s t).size ≤ t.2.2 - t.2.1 := by
  unfold txt
  split
  · show 1 ≤ _; omega
  · rw [piece_size (by omega) h2]; exact Nat.le_refl _
theorem wr_size (s : ByteArray) : ∀ (l : List Tok) (en : Option Nat), (∀ t ∈ l, t.2.1 < t.2.2 ∧ t.2.2 ≤ s.size) → (wrR s (semiRec s en l)).size ≤ (if en.isSome then 2 else 0) + 4 * (l.map fun t => t.2.2 - t.2.1).sum
  | [], none, _ => Nat.zero_le _
  | [], some e, _ => by
    show (wrR s [(9, e, e)]).size ≤ _
    rw [wrR, wrR, ByteArray.append_empty]
    show 2 ≤ _
    simp
  | t :: r, en, h => by
    have h1 := h t List.mem_cons_self
    have hr : ∀ t ∈ r, t.2.1 < t.2.2 ∧ t.2.2 ≤ s.size := fun t ht => h t (List.mem_cons_of_mem _ ht)
    have hsum : ((t :: r).map fun t => t.2.2 - t.2.1).sum = (t.2.2 - t.2.1) + (r.map fun t => t.2.2 - t.2.1).sum := by rw [List.map_cons, List.sum_cons]
    rw [semiRec, hsum]
    by_cases hs : silentK t.1 = true
    · rw [if_pos hs]
      by_cases hn : hasNl s t = true
      · rw [if_pos hn]
        have ih := wr_size s r none hr
        rw [if_neg (by decide)] at ih
        cases en with
        | none => show (wrR s (semiRec s none r)).size ≤ _; omega
        | some e =>
          show (wrR s ((9, e, e) :: semiRec s none r)).size ≤ _
          rw [wrR, ByteArray.size_append]
          have : (spS ++ txt s (9, e, e)).size = 2 := rfl
          rw [this, if_pos (by rfl)]
          omega
      · rw [if_neg hn]
        have ih := wr_size s r en hr
        omega
    · rw [if_neg hs, wrR, ByteArray.size_append, ByteArray.size_append]
      have h2 := txt_le h1.1 h1.2
      have ih := wr_size s r (if endsK t.1 (s.extract t.2.1 t.2.2) then some t.2.2 else none) hr
      have hsp : spS.size = 1 := rfl
      have h3 : ∀ en' : Option Nat, (if en'.isSome = true then 2 else 0) ≤ 2 := fun en' => by cases en' <;> simp
      generalize (if endsK t.1 (s.extract t.2.1 t.2.2) then some t.2.2 else none) = en' at ih ⊢
      have h4 := h3 en'
      omega
/-- The whole law of the texts. -/
theorem written_all (s : ByteArray) (h : (scanAll s).2.1 = 0) (hs : s.size ≤ 4000) :
    (wrR s (semiAll s).1).size ≤ 16000 ∧ (semiAll (wrR s (semiAll s).1)).2 = (0, 0) ∧ (semiAll (wrR s (semiAll s).1)).1.map (tx (wrR s (semiAll s).1)) = (semiAll s).1.map (tx s) ∧ ∀ t ∈ (semiAll (wrR s (semiAll s).1)).1, t.2.1 < t.2.2 := by
  obtain ⟨e1, e2, e3, e4⟩ := scanAll_good h
  have herr : (scanAll s).2.1 = 0 ∧ (scanAll s).2.2 = 0 := ⟨h, scanAll_err s h⟩
  rw [semiAll_rec s herr, e4]
  simp only []
  have hgood : ∀ t ∈ semiRec s none (alls s 0).1, goodT s t := fun t ht => by
    rcases semiRec_mem s _ none t ht with h9 | ⟨hm, hsil⟩
    · exact Or.inl h9
    · by_cases h9 : t.1 = 9
      · exact Or.inl h9
      · have a1 := alls_in s 0 t hm
        have a2 := alls_lex s 0 e2 t hm
        exact Or.inr ⟨h9, a2.1, a2.2.1, a2.2.2, a1.2.1, a1.2.2.1, hsil, a1.2.2.2⟩
  have hfin := semiRec_fin s (alls s 0).1 none
  have hsz : (wrR s (semiRec s none (alls s 0).1)).size ≤ 16000 := by
    have := wr_size s _ none (fun t ht => by have := alls_in s 0 t ht; exact ⟨this.2.1, this.2.2.1⟩)
    rw [alls_sum s 0 (Nat.zero_le _) e3, if_neg (by decide)] at this
    omega
  generalize semiRec s none (alls s 0).1 = T at *
  obtain ⟨g1, g2, _, g3, g4⟩ := wr_main s T hgood ByteArray.empty (wrR s T) (by rw [ByteArray.empty_append])
  generalize wrR s T = u at *
  have hz0 : ByteArray.empty.size = 0 := rfl
  rw [hz0] at g1 g2 g3 g4
  have hsu := scanAll_of (by omega) g1 g2
  refine ⟨hsz, ?_⟩
  rw [semiAll_rec u ⟨by rw [hsu], by rw [hsu]⟩, hsu]
  simp only []
  rw [g3 none hfin]
  exact ⟨trivial, g4, posR_pos s T 0 hgood⟩
end Go.Proofs.YtcnkcnalabjhgaaDoor
