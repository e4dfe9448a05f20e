/- Layer 8 in plain Lean: kinds and texts of the tokens, by lexemes that are blank, silent or not. -/
import Derived.Test.YtcnkcnalabjhgaaDoorApartP
import Derived.Test.YtcnkcnalabjhgaaDoorSemiP2
namespace Go.Proofs.YtcnkcnalabjhgaaDoor
set_option linter.all false

def semS : ByteArray := ⟨#[59]⟩
/-- A token's text: a semicolon's own, whether it was put in or stands there. -/
def txt (s : ByteArray) (t : Tok) : ByteArray := if t.1 = 9 then semS else s.extract t.2.1 t.2.2
def tx (s : ByteArray) (t : Tok) : Int × ByteArray := (t.1, txt s t)
def flE (en : Bool) : List (Int × ByteArray) := if en then [(9, semS)] else []
/-- Kinds and texts of the tokens of lexemes; en: may a line end here? -/
def semX (s : ByteArray) : Bool → List Tok → List (Int × ByteArray)
  | en, [] => flE en
  | en, t :: r => if silentK t.1 then (if hasNl s t then flE en ++ semX s false r else semX s en r)
      else tx s t :: semX s (endsK t.1 (s.extract t.2.1 t.2.2)) r
theorem semiRec_tx (s : ByteArray) : ∀ (l : List Tok) (en : Option Nat), (semiRec s en l).map (tx s) = semX s en.isSome l
  | [], en => by cases en <;> rfl
  | t :: r, en => by
    rw [semiRec, semX]
    by_cases hs : silentK t.1 = true
    · rw [if_pos hs, if_pos hs]
      by_cases hn : hasNl s t = true
      · rw [if_pos hn, if_pos hn, List.map_append, semiRec_tx s r none]
        cases en <;> rfl
      · rw [if_neg hn, if_neg hn, semiRec_tx s r en]
    · rw [if_neg hs, if_neg hs, List.map_cons, semiRec_tx s r]
      congr 2
      by_cases he : endsK t.1 (s.extract t.2.1 t.2.2) = true
      · rw [if_pos he, he]; rfl
      · rw [if_neg he]
        cases h : endsK t.1 (s.extract t.2.1 t.2.2) with
        | true => exact absurd h he
        | false => rfl
theorem indexByte_has (c : UInt8) : ∀ l : List UInt8, 0 ≤ Lib.indexByte l c ↔ c ∈ l
  | [] => by simp [Lib.indexByte]
  | b :: t => by
    have ih := indexByte_has c t
    have hge := Lib.indexByte_ge t c
    rw [Lib.indexByte]
    by_cases hb : b = c
    · subst hb; simp
    · rw [if_neg (by simpa using hb)]
      have hcb : ¬ c = b := fun e => hb e.symm
      simp only [List.mem_cons, hcb, false_or]
      rw [← ih]
      by_cases hm : Lib.indexByte t c = -1
      · rw [hm]; simp
      · rw [if_neg (by simpa using hm)]; omega
theorem hasNl_iff {s : ByteArray} {k : Int} {a e : Nat} (he : e ≤ s.size) : hasNl s (k, a, e) = true ↔ ∃ j, a ≤ j ∧ j < e ∧ bt s j = 10 := by
  unfold hasNl
  rw [decide_eq_true_eq, indexByte_has]
  simp only []
  rw [extract_data]
  constructor
  · intro h
    obtain ⟨j, hj, hx⟩ := List.getElem_of_mem h
    rw [List.getElem_take, List.getElem_drop] at hx
    rw [List.length_take, List.length_drop, ← size_data] at hj
    refine ⟨a + j, by omega, by omega, ?_⟩
    unfold bt
    rw [get!_list, List.getD_eq_getElem?_getD, List.getElem?_eq_getElem (by rw [← size_data]; omega), Option.getD_some, hx]
    rfl
  · rintro ⟨j, h1, h2, h3⟩
    have hj : j < s.data.toList.length := by rw [← size_data]; omega
    unfold bt at h3
    rw [get!_list, List.getD_eq_getElem?_getD, List.getElem?_eq_getElem hj, Option.getD_some] at h3
    have h4 : s.data.toList[j] = 10 := UInt8.toNat_inj.1 (by rw [h3]; rfl)
    rw [← h4]
    refine List.mem_iff_getElem.2 ⟨j - a, by rw [List.length_take, List.length_drop]; omega, ?_⟩
    rw [List.getElem_take, List.getElem_drop]
    congr 1; omega
theorem hasNl_kind (s : ByteArray) (k k' : Int) (a e : Nat) : hasNl s (k, a, e) = hasNl s (k', a, e) := rfl
theorem hasNl_text {s u : ByteArray} {k k' : Int} {a e a' e' : Nat} (h : u.extract a' e' = s.extract a e) : hasNl u (k', a', e') = hasNl s (k, a, e) := by
  unfold hasNl; simp only []; rw [h]
theorem hasNl_no {s : ByteArray} {k : Int} {a e : Nat} (he : e ≤ s.size) (h : ∀ j, a ≤ j → j < e → bt s j ≠ 10) : hasNl s (k, a, e) = false := by
  cases g : hasNl s (k, a, e) with
  | false => rfl
  | true =>
    obtain ⟨j, h1, h2, h3⟩ := (hasNl_iff he).1 g
    exact absurd h3 (h j h1 h2)
theorem semX_sil (s : ByteArray) (en : Bool) (t : Tok) (r : List Tok) (h : silentK t.1 = true) : semX s en (t :: r) = if hasNl s t then flE en ++ semX s false r else semX s en r := by rw [semX, if_pos h]
theorem semX_tok (s : ByteArray) (en : Bool) (t : Tok) (r : List Tok) (h : silentK t.1 = false) : semX s en (t :: r) = tx s t :: semX s (endsK t.1 (s.extract t.2.1 t.2.2)) r := by rw [semX, if_neg (by rw [h]; decide)]
/-- Two line ends are one. -/
theorem fl_false (l : List (Int × ByteArray)) : flE false ++ l = l := rfl
/-- One blank byte more. -/
theorem semX_blank {u : ByteArray} {a : Nat} (h : a < u.size) (hb : blankB (bt u a) = true) : (alls u a).2 = (alls u (a + 1)).2 ∧ ∀ en, semX u en (alls u a).1 = if bt u a = 10 then flE en ++ semX u false (alls u (a + 1)).1 else semX u en (alls u (a + 1)).1 := by
  have e1 : blankTo u a = blankTo u (a + 1) := by rw [blankTo, if_pos ⟨h, hb⟩]
  have hl := lex_blank h hb
  rw [e1] at hl
  rw [alls_step h hl (by decide)]
  have hle := blankTo_le u (a + 1) h
  by_cases g : a + 1 < u.size ∧ blankB (bt u (a + 1)) = true
  · have hl2 := lex_blank g.1 g.2
    rw [alls_step g.1 hl2 (by decide)]
    refine ⟨rfl, fun en => ?_⟩
    simp only []
    rw [semX_sil _ _ _ _ (by rfl)]
    generalize (alls u (blankTo u (a + 1))).1 = r
    by_cases h10 : bt u a = 10
    · rw [if_pos h10, (hasNl_iff hle.2).2 ⟨a, Nat.le_refl _, by omega, h10⟩, if_pos rfl, semX_sil _ _ _ _ (by rfl)]
      split <;> rfl
    · rw [if_neg h10, semX_sil _ _ _ _ (by rfl)]
      have : hasNl u (10, a, blankTo u (a + 1)) = hasNl u (10, a + 1, blankTo u (a + 1)) := by
        rw [Bool.eq_iff_iff, hasNl_iff hle.2, hasNl_iff hle.2]
        constructor
        · rintro ⟨j, j1, j2, j3⟩
          refine ⟨j, ?_, j2, j3⟩
          rcases Nat.lt_or_ge a j with q | q
          · exact q
          · obtain rfl : j = a := by omega
            exact absurd j3 h10
        · rintro ⟨j, j1, j2, j3⟩
          exact ⟨j, by omega, j2, j3⟩
      rw [this]
  · have : blankTo u (a + 1) = a + 1 := by rw [blankTo, if_neg g]
    rw [this]
    refine ⟨rfl, fun en => ?_⟩
    simp only []
    rw [semX_sil _ _ _ _ (by rfl)]
    by_cases h10 : bt u a = 10
    · rw [if_pos h10, (hasNl_iff h).2 ⟨a, Nat.le_refl _, by omega, h10⟩, if_pos rfl]
    · rw [if_neg h10, hasNl_no h (fun j j1 j2 => by obtain rfl : j = a := by omega
                                                    exact h10), if_neg (by decide)]
/-- Blank bytes, one behind the other. -/
theorem semX_blanks {u : ByteArray} (b : Nat) (hb : b ≤ u.size) (k : Int) (a : Nat) (h : a ≤ b) (hx : ∀ j, a ≤ j → j < b → blankB (bt u j) = true) :
    (alls u a).2 = (alls u b).2 ∧ ∀ en, semX u en (alls u a).1 = if hasNl u (k, a, b) then flE en ++ semX u false (alls u b).1 else semX u en (alls u b).1 := by
  by_cases hlt : a < b
  · have h1 := semX_blank (u := u) (a := a) (by omega) (hx a (Nat.le_refl _) hlt)
    have h2 := semX_blanks b hb k (a + 1) hlt (fun j g1 g2 => hx j (by omega) g2)
    refine ⟨h1.1.trans h2.1, fun en => ?_⟩
    rw [h1.2 en]
    by_cases h10 : bt u a = 10
    · rw [if_pos h10, (hasNl_iff hb).2 ⟨a, Nat.le_refl _, hlt, h10⟩, if_pos rfl, h2.2 false]
      split <;> rfl
    · rw [if_neg h10, h2.2 en]
      have : hasNl u (k, a, b) = hasNl u (k, a + 1, b) := by
        rw [Bool.eq_iff_iff, hasNl_iff hb, hasNl_iff hb]
        constructor
        · rintro ⟨j, j1, j2, j3⟩
          refine ⟨j, ?_, j2, j3⟩
          rcases Nat.lt_or_ge a j with q | q
          · exact q
          · obtain rfl : j = a := by omega
            exact absurd j3 h10
        · rintro ⟨j, j1, j2, j3⟩
          exact ⟨j, by omega, j2, j3⟩
      rw [this]
  · obtain rfl : a = b := by omega
    refine ⟨rfl, fun en => ?_⟩
    rw [hasNl_no hb (fun j j1 j2 => by omega), if_neg (by decide)]
termination_by b - a
decreasing_by omega
end Go.Proofs.YtcnkcnalabjhgaaDoor
