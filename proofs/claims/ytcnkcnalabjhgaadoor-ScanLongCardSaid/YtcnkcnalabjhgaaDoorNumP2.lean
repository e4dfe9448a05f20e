/- Layer 5 in plain Lean: the program's kind of a number is the document's. -/
import Derived.Test.YtcnkcnalabjhgaaDoorNumP
namespace Go.Proofs.YtcnkcnalabjhgaaDoor
set_option linter.all false

/-! ### the program's answer -/
/-- A text behind its first byte 95, if it begins with one. -/
def bare (l : List Nat) : List Nat := if l.head? = some 95 then l.drop 1 else l
def wholeL (b : Nat) (l : List Nat) : Nat := if rowOK b (bare l) then 3 else 0
def signed (l : List Nat) : Nat := if l[1]? = some 43 ∨ l[1]? = some 45 then 2 else 1
def powL (c1 c2 : Nat) (l : List Nat) : Nat :=
  if l.head? = some c1 ∨ l.head? = some c2 then
    if 0 < rowL 10 (l.drop (signed l)) then signed l + rowL 10 (l.drop (signed l)) else 0
  else 0
/-- How many bytes the point and what follows have. -/
def tailK (b : Nat) (m : List Nat) : Nat := if m[rowL b m]? = some 46 then rowL b (m.drop (rowL b m + 1)) + 1 else 0
/-- Is there no digit before and behind the point? -/
def noDigit (b : Nat) (m : List Nat) : Bool := decide (tailK b m ≠ 0 ∧ rowL b m + (tailK b m - 1) = 0)
def sixteenL (l : List Nat) : Nat :=
  if rowOK 16 (bare l) then 3
  else if rowL 16 (bare l) = 0 ∧ l.head? = some 95 then 0
  else if noDigit 16 (bare l) then 0
  else if tailK 16 (bare l) = 0 ∧ rowL 16 (bare l) = 0 then 0
  else if 0 < powL 112 80 ((bare l).drop (rowL 16 (bare l) + tailK 16 (bare l))) ∧ rowL 16 (bare l) + tailK 16 (bare l) + powL 112 80 ((bare l).drop (rowL 16 (bare l) + tailK 16 (bare l))) = (bare l).length then 4 else 0
def tenL (l : List Nat) : Nat :=
  if rowL 10 l = l.length ∧ 0 < rowL 10 l then (if l.head? ≠ some 48 ∨ rowL 10 l = 1 then 3 else wholeL 8 (l.drop 1))
  else if noDigit 10 l then 0
  else if 0 < rowL 10 l + tailK 10 l ∧ 0 < tailK 10 l + powL 101 69 (l.drop (rowL 10 l + tailK 10 l)) ∧ rowL 10 l + tailK 10 l + powL 101 69 (l.drop (rowL 10 l + tailK 10 l)) = l.length then 4 else 0
def realL (l : List Nat) : Nat :=
  if 1 < l.length ∧ l.head? = some 48 then
    if l[1]? = some 98 ∨ l[1]? = some 66 then wholeL 2 (l.drop 2)
    else if l[1]? = some 111 ∨ l[1]? = some 79 then wholeL 8 (l.drop 2)
    else if l[1]? = some 120 ∨ l[1]? = some 88 then sixteenL (l.drop 2)
    else tenL l
  else tenL l
def kindL (l : List Nat) : Nat :=
  if realL l ≠ 0 then realL l
  else if l.getLast? ≠ some 105 then 0
  else if realL l.dropLast ≠ 0 ∨ (l.dropLast ≠ [] ∧ rowL 10 l.dropLast = l.dropLast.length) then 5 else 0

/-! ### the document's answer -/
def underR (b : Nat) (l : List Nat) : Bool := rowOK b l || (decide (1 < l.length) && (l.head? == some 95 && rowOK b (l.drop 1)))
def headedR (small big : Nat) (l : List Nat) : Bool := decide (2 ≤ l.length) && (l.head? == some 48 && (l[1]? == some small || l[1]? == some big))
def powR (small big : Nat) (l : List Nat) : Bool :=
  decide (2 ≤ l.length) && ((l.head? == some small || l.head? == some big) && (if l[1]? = some 43 ∨ l[1]? = some 45 then rowOK 10 (l.drop 2) else rowOK 10 (l.drop 1)))
def intR (l : List Nat) : Bool :=
  l == [48] || (rowOK 10 l && l.head? != some 48) || (decide (1 < l.length) && (l.head? == some 48 && underR 8 (l.drop 1))) ||
    (headedR 98 66 l && underR 2 (l.drop 2)) || (headedR 111 79 l && underR 8 (l.drop 2)) || (headedR 120 88 l && underR 16 (l.drop 2))
/-- Around the first point. -/
def pointedR (b : Nat) (hex : Bool) : List Nat → List Nat → Bool
  | _, [] => false
  | a, c :: r => if c = 46 then ((rowOK b a || (hex && underR b a)) && (r.isEmpty || rowOK b r)) || (a.isEmpty && rowOK b r) else pointedR b hex (a ++ [c]) r
def floatR (l : List Nat) : Bool :=
  if headedR 120 88 l then
    (List.range (l.length - 2 + 1)).any fun i => powR 112 80 ((l.drop 2).drop i) && (pointedR 16 true [] ((l.drop 2).take i) || underR 16 ((l.drop 2).take i))
  else pointedR 10 false [] l || (List.range (l.length + 1)).any fun i => powR 101 69 (l.drop i) && (pointedR 10 false [] (l.take i) || rowOK 10 (l.take i))
def kindR (l : List Nat) : Nat :=
  if intR l then 3 else if floatR l then 4
  else if 1 < l.length ∧ l.getLast? = some 105 then (if intR l.dropLast || floatR l.dropLast || rowOK 10 l.dropLast then 5 else 0) else 0

/-! ### they are one -/
theorem rowOK_nil (b : Nat) : rowOK b [] = false := rfl
theorem rowOK_len {b : Nat} {l : List Nat} : rowOK b l = true ↔ l ≠ [] ∧ rowL b l = l.length := by unfold rowOK; simp
theorem rowOK_head {b : Nat} {c : Nat} {t : List Nat} (h : ¬ dval c < b) : rowOK b (c :: t) = false := by
  unfold rowOK; rw [rowL_non h]; simp
theorem underR_bare {b : Nat} (hb : b ≤ 16) (l : List Nat) : underR b l = rowOK b (bare l) := by
  unfold underR bare
  by_cases h : l.head? = some 95
  · rw [if_pos h]
    obtain ⟨t, rfl⟩ : ∃ t, l = 95 :: t := by
      cases l with
      | nil => cases h
      | cons c t => simp at h; exact ⟨t, by rw [h]⟩
    rw [rowOK_head (by rw [dval_under]; omega)]
    cases t with
    | nil => simp [rowOK_nil]
    | cons d t => simp
  · rw [if_neg h]
    have : (l.head? == some 95) = false := by simpa using h
    rw [this]; simp
theorem wholeL_under {b : Nat} (hb : b ≤ 16) (l : List Nat) : wholeL b l = if underR b l then 3 else 0 := by unfold wholeL; rw [underR_bare hb]
theorem powL_cons (c1 c2 c d : Nat) (t : List Nat) : powL c1 c2 (c :: d :: t) = if c = c1 ∨ c = c2 then (if d = 43 ∨ d = 45 then (if 0 < rowL 10 t then 2 + rowL 10 t else 0) else (if 0 < rowL 10 (d :: t) then 1 + rowL 10 (d :: t) else 0)) else 0 := by
  unfold powL signed
  by_cases hs : d = 43 ∨ d = 45
  · simp [hs]
  · simp [hs]
theorem powR_cons (c1 c2 c d : Nat) (t : List Nat) : powR c1 c2 (c :: d :: t) = ((c == c1 || c == c2) && (if d = 43 ∨ d = 45 then rowOK 10 t else rowOK 10 (d :: t))) := by
  unfold powR
  simp
theorem powL_iff (c1 c2 : Nat) (l : List Nat) : powR c1 c2 l = true ↔ 0 < powL c1 c2 l ∧ powL c1 c2 l = l.length := by
  match l with
  | [] => unfold powR powL; simp
  | [c] => unfold powR powL signed; simp [rowL_nil]
  | c :: d :: t =>
    rw [powR_cons, powL_cons]
    by_cases hc : c = c1 ∨ c = c2
    · have h1 : (c == c1 || c == c2) = true := by simpa using hc
      rw [if_pos hc, h1, Bool.true_and]
      by_cases hs : d = 43 ∨ d = 45
      · rw [if_pos hs, if_pos hs, rowOK_len]
        have := rowL_le 10 t
        by_cases h0 : 0 < rowL 10 t
        · rw [if_pos h0]
          simp only [List.length_cons]
          constructor
          · rintro ⟨_, h⟩; omega
          · rintro ⟨_, h⟩; exact ⟨by rintro rfl; rw [rowL_nil] at h0; omega, by omega⟩
        · rw [if_neg h0]
          constructor
          · rintro ⟨h, h2⟩
            have := List.length_pos_iff.2 h
            omega
          · rintro ⟨h, _⟩; omega
      · rw [if_neg hs, if_neg hs, rowOK_len]
        have := rowL_le 10 (d :: t)
        by_cases h0 : 0 < rowL 10 (d :: t)
        · rw [if_pos h0]
          simp only [List.length_cons] at this ⊢
          constructor
          · rintro ⟨_, h⟩; omega
          · rintro ⟨_, h⟩; exact ⟨by simp, by omega⟩
        · rw [if_neg h0]
          constructor
          · rintro ⟨h, h2⟩
            simp only [List.length_cons] at h2
            omega
          · rintro ⟨h, _⟩; omega
    · have h1 : (c == c1 || c == c2) = false := by
        rw [not_or] at hc
        simp [hc.1, hc.2]
      rw [if_neg hc, h1]; simp
/-- A mantissa: a row, or a row, a point, a row or none, or (if it may) a point and a row. -/
def Mant (b : Nat) (ae : Bool) (x : List Nat) : Prop :=
  RowP b x ∨ (∃ a y, x = a ++ 46 :: y ∧ RowP b a ∧ (y = [] ∨ RowP b y)) ∨ (ae = true ∧ ∃ y, x = 46 :: y ∧ RowP b y)
theorem stops_point {b : Nat} (hb : b ≤ 16) (r : List Nat) : stops b (46 :: r) := by
  intro c h
  simp at h
  subst h
  exact ⟨by rw [dval_point]; omega, by omega⟩
theorem mant_fwd {b : Nat} (hb : b ≤ 16) {ae : Bool} {x r : List Nat} (hx : Mant b ae x) (hr : stops b r) (hr2 : r.head? ≠ some 46) :
    rowL b (x ++ r) + tailK b (x ++ r) = x.length ∧ noDigit b (x ++ r) = false ∧ (tailK b (x ++ r) = 0 → 0 < rowL b (x ++ r)) ∧ (ae = false → 0 < rowL b (x ++ r)) ∧ (tailK b (x ++ r) = 0 ↔ RowP b x) := by
  have hpl : ∀ {y : List Nat}, RowP b y → 0 < y.length := fun h => by obtain ⟨c, t, rfl, _⟩ := h.head; simp
  rcases hx with hx | ⟨a, y, rfl, ha, hy⟩ | ⟨hae, y, rfl, hy⟩
  · have h1 := rowL_append hb hx hr
    have h2 : tailK b (x ++ r) = 0 := by
      unfold tailK
      rw [h1, List.getElem?_append_right (Nat.le_refl _), Nat.sub_self, if_neg]
      rw [← List.head?_eq_getElem?]
      exact hr2
    have := hpl hx
    refine ⟨by omega, ?_, fun _ => by omega, fun _ => by omega, fun _ => hx, fun _ => h2⟩
    unfold noDigit; rw [h2]; simp
  · have e : (a ++ 46 :: y) ++ r = a ++ 46 :: (y ++ r) := by simp
    rw [e]
    have h1 := rowL_append hb ha (stops_point hb (y ++ r))
    have h3 : (a ++ 46 :: (y ++ r)).drop (a.length + 1) = y ++ r := by
      rw [← List.drop_drop, List.drop_left]; rfl
    have h4 : rowL b (y ++ r) = y.length := by
      rcases hy with rfl | hy
      · rw [List.nil_append, stops_row hr]; rfl
      · exact rowL_append hb hy hr
    have h2 : tailK b (a ++ 46 :: (y ++ r)) = y.length + 1 := by
      unfold tailK
      rw [h1, List.getElem?_append_right (Nat.le_refl _), Nat.sub_self, if_pos (by rfl), h3, h4]
    have := hpl ha
    refine ⟨by rw [h1, h2]; simp, ?_, fun _ => by omega, fun _ => by omega, fun h => by omega, fun h => ?_⟩
    · unfold noDigit; rw [h1, h2]; simp; intro h; rw [h] at this; simp at this
    · exfalso
      have h5 := rowL_append hb h (stops_nil b)
      rw [List.append_nil] at h5
      have h6 := rowL_append hb ha (stops_point hb y)
      rw [h6] at h5
      simp at h5
  · rw [List.cons_append]
    have h1 : rowL b (46 :: (y ++ r)) = 0 := stops_row (stops_point hb _)
    have h4 := rowL_append hb hy hr
    have h2 : tailK b (46 :: (y ++ r)) = y.length + 1 := by
      unfold tailK
      rw [h1]
      simp [h4]
    have := hpl hy
    refine ⟨by rw [h1, h2]; simp, ?_, fun h => by omega, fun h => by (rw [hae] at h; cases h), fun h => by omega, fun h => ?_⟩
    · unfold noDigit; rw [h1, h2]; simp; intro h; rw [h] at this; simp at this
    · obtain ⟨c, t, h5, h6⟩ := h.head
      simp at h5
      rw [← h5.1, dval_point] at h6
      omega
theorem tailK_le (b : Nat) (m : List Nat) : rowL b m + tailK b m ≤ m.length := by
  have h1 := rowL_le b m
  unfold tailK
  split
  · rename_i h
    have h2 := rowL_le b (m.drop (rowL b m + 1))
    have h3 := (List.getElem?_eq_some_iff.1 h).1
    rw [List.length_drop] at h2
    omega
  · omega
theorem mant_bwd {b : Nat} (ae : Bool) (m : List Nat) (h1 : noDigit b m = false) (h2 : tailK b m = 0 → 0 < rowL b m) (h3 : ae = false → 0 < rowL b m) : Mant b ae (m.take (rowL b m + tailK b m)) := by
  have ht := @rowL_take b m
  by_cases hk : tailK b m = 0
  · rw [hk, Nat.add_zero]
    exact Or.inl (ht (h2 hk))
  · have hp : m[rowL b m]? = some 46 := by
      unfold tailK at hk
      split at hk
      · assumption
      · exact absurd rfl hk
    have hk2 : tailK b m = rowL b (m.drop (rowL b m + 1)) + 1 := by unfold tailK; rw [if_pos hp]
    have hlt := (List.getElem?_eq_some_iff.1 hp).1
    have e : m.take (rowL b m + tailK b m) = m.take (rowL b m) ++ 46 :: (m.drop (rowL b m + 1)).take (rowL b (m.drop (rowL b m + 1))) := by
      rw [hk2, List.take_add]
      congr 1
      rw [List.drop_eq_getElem_cons hlt, List.take_succ_cons]
      congr 1
      exact (List.getElem?_eq_some_iff.1 hp).2
    rw [e]
    have hy := @rowL_take b (m.drop (rowL b m + 1))
    generalize hq : rowL b (m.drop (rowL b m + 1)) = q at *
    by_cases h0 : 0 < rowL b m
    · right; left
      refine ⟨_, _, rfl, ht h0, ?_⟩
      by_cases hq0 : 0 < q
      · exact Or.inr (hy hq0)
      · left
        rw [show q = 0 by omega, List.take_zero]
    · have h00 : rowL b m = 0 := by omega
      right; right
      have hq0 : 0 < q := by
        unfold noDigit at h1
        simp only [decide_eq_false_iff_not, not_and] at h1
        have := h1 hk
        omega
      refine ⟨?_, _, ?_, hy hq0⟩
      · cases ae with
        | true => rfl
        | false => exact absurd (h3 rfl) h0
      · rw [h00, List.take_zero, List.nil_append]
end Go.Proofs.YtcnkcnalabjhgaaDoor
