/- Layer 5 in plain Lean: numbers as texts, the program's answer and the document's; no program in sight. -/
import Derived.Test.YtcnkcnalabjhgaaDoorClassP
namespace Go.Proofs.YtcnkcnalabjhgaaDoor
set_option linter.all false

/-- What a byte says as a digit; 99: it is none. -/
def dval (c : Nat) : Nat := if 48 ≤ c ∧ c ≤ 57 then c - 48 else if 97 ≤ c ∧ c ≤ 102 then c - 87 else if 65 ≤ c ∧ c ≤ 70 then c - 55 else 99
theorem dval_under : dval 95 = 99 := by decide
theorem dval_point : dval 46 = 99 := by decide
/-- How many bytes at a text's beginning are a row of digits. -/
def rowL (b : Nat) : List Nat → Nat
  | [] => 0
  | c :: t =>
    if dval c < b then
      match t with
      | u :: d :: r => if u = 95 ∧ dval d < b then 2 + rowL b (d :: r) else 1 + rowL b (u :: d :: r)
      | [x] => 1 + rowL b [x]
      | [] => 1
    else 0
termination_by l => l.length
theorem rowL_nil (b : Nat) : rowL b [] = 0 := by rw [rowL]
theorem rowL_non {b c : Nat} {t : List Nat} (h : ¬ dval c < b) : rowL b (c :: t) = 0 := by rw [rowL.eq_def]; simp only [if_neg h]
theorem rowL_under {b c d : Nat} {r : List Nat} (h : dval c < b) (hd : dval d < b) : rowL b (c :: 95 :: d :: r) = 2 + rowL b (d :: r) := by
  rw [rowL.eq_def]; simp only [if_pos h]; rw [if_pos ⟨trivial, hd⟩]
theorem rowL_next {b c : Nat} {t : List Nat} (h : dval c < b) (hn : ¬ (t.head? = some 95 ∧ ∃ d, t[1]? = some d ∧ dval d < b)) : rowL b (c :: t) = 1 + rowL b t := by
  rw [rowL.eq_def]; simp only [if_pos h]
  match t, hn with
  | [], _ => rw [rowL_nil]
  | [x], _ => rfl
  | u :: d :: r, hn =>
    simp only []
    rw [if_neg]
    rintro ⟨rfl, hd⟩
    exact hn ⟨rfl, d, rfl, hd⟩
theorem rowL_le (b : Nat) : ∀ l : List Nat, rowL b l ≤ l.length
  | [] => by rw [rowL_nil]; exact Nat.le_refl _
  | c :: t => by
    by_cases h : dval c < b
    · by_cases hn : t.head? = some 95 ∧ ∃ d, t[1]? = some d ∧ dval d < b
      · match t, hn with
        | [], hn => simp at hn
        | [x], hn => simp at hn
        | u :: d :: r, ⟨h1, d', h2, h3⟩ =>
          simp at h1 h2
          subst h1; subst h2
          rw [rowL_under h h3]
          have := rowL_le b (d :: r)
          simp only [List.length_cons] at this ⊢
          omega
      · rw [rowL_next h hn]
        have := rowL_le b t
        simp only [List.length_cons]; omega
    · rw [rowL_non h]; omega
termination_by l => l.length
/-- A row of digits. -/
inductive RowP (b : Nat) : List Nat → Prop
  | one {c : Nat} : dval c < b → RowP b [c]
  | next {c : Nat} {t : List Nat} : dval c < b → RowP b t → RowP b (c :: t)
  | under {c : Nat} {t : List Nat} : dval c < b → RowP b t → RowP b (c :: 95 :: t)
theorem RowP.head {b : Nat} {l : List Nat} (h : RowP b l) : ∃ c t, l = c :: t ∧ dval c < b := by
  cases h with
  | one h => exact ⟨_, _, rfl, h⟩
  | next h _ => exact ⟨_, _, rfl, h⟩
  | under h _ => exact ⟨_, _, rfl, h⟩
def stops (b : Nat) (r : List Nat) : Prop := ∀ c, r.head? = some c → ¬ dval c < b ∧ c ≠ 95
theorem stops_nil (b : Nat) : stops b [] := by intro c h; cases h
theorem stops_row {b : Nat} {r : List Nat} (h : stops b r) : rowL b r = 0 := by
  cases r with
  | nil => exact rowL_nil b
  | cons c t => exact rowL_non (h c rfl).1
theorem rowL_append {b : Nat} (hb : b ≤ 16) {a : List Nat} (ha : RowP b a) {r : List Nat} (hr : stops b r) : rowL b (a ++ r) = a.length := by
  induction ha with
  | one h =>
    rename_i c
    rw [List.singleton_append, rowL_next h, stops_row hr]
    · rfl
    · rintro ⟨h1, _⟩
      exact (hr 95 h1).2 rfl
  | next h ht ih =>
    rename_i c t
    rw [List.cons_append, rowL_next h, ih, List.length_cons, Nat.add_comm]
    obtain ⟨d, t', rfl, hd⟩ := ht.head
    rintro ⟨h1, _⟩
    simp at h1
    subst h1
    rw [dval_under] at hd
    omega
  | under h ht ih =>
    rename_i c t
    obtain ⟨d, t', rfl, hd⟩ := ht.head
    rw [List.cons_append, List.cons_append, List.cons_append, rowL_under h hd, ← List.cons_append, ih]
    simp only [List.length_cons]; omega
theorem rowL_take {b : Nat} : ∀ l : List Nat, 0 < rowL b l → RowP b (l.take (rowL b l))
  | [], h => by rw [rowL_nil] at h; omega
  | c :: t, h => by
    by_cases hc : dval c < b
    · by_cases hn : t.head? = some 95 ∧ ∃ d, t[1]? = some d ∧ dval d < b
      · match t, hn with
        | [], hn => simp at hn
        | [x], hn => simp at hn
        | u :: d :: r, ⟨h1, d', h2, h3⟩ =>
          simp at h1 h2
          subst h1; subst h2
          rw [rowL_under hc h3]
          have h4 : 0 < rowL b (d :: r) := by
            by_cases hn2 : r.head? = some 95 ∧ ∃ d, r[1]? = some d ∧ dval d < b
            · match r, hn2 with
              | [], hn => simp at hn
              | [x], hn => simp at hn
              | u :: e :: r, ⟨h1, d', h2, h4⟩ =>
                simp at h1 h2
                subst h1; subst h2
                rw [rowL_under h3 h4]; omega
            · rw [rowL_next h3 hn2]; omega
          have := rowL_take (d :: r) h4
          rw [show 2 + rowL b (d :: r) = rowL b (d :: r) + 1 + 1 by omega, List.take_succ_cons, List.take_succ_cons]
          exact RowP.under hc this
      · rw [rowL_next hc hn, Nat.add_comm, List.take_succ_cons]
        by_cases h0 : 0 < rowL b t
        · exact RowP.next hc (rowL_take t h0)
        · have : rowL b t = 0 := by omega
          rw [this, List.take_zero]
          exact RowP.one hc
    · rw [rowL_non hc] at h; omega
termination_by l => l.length
def rowOK (b : Nat) (l : List Nat) : Bool := !l.isEmpty && rowL b l == l.length
theorem rowOK_iff {b : Nat} (hb : b ≤ 16) (l : List Nat) : rowOK b l = true ↔ RowP b l := by
  unfold rowOK
  constructor
  · intro h
    simp at h
    have h2 : 0 < rowL b l := by
      rw [h.2]
      exact List.length_pos_iff.2 h.1
    have := rowL_take l h2
    rw [h.2, List.take_of_length_le (Nat.le_refl _)] at this
    exact this
  · intro h
    have := rowL_append hb h (stops_nil b)
    rw [List.append_nil] at this
    obtain ⟨c, t, rfl, _⟩ := h.head
    simp [this]
/-- The document's row. -/
def rowR (b : Nat) (l : List Nat) : Bool :=
  !l.isEmpty && decide (dval (l.getD 0 0) < b) && decide (dval (l.getD (l.length - 1) 0) < b) &&
    (List.range l.length).all fun i => (l.getD i 0 == 95 && l.getD (i - 1) 0 != 95) || decide (dval (l.getD i 0) < b)
theorem rowR_iff {b : Nat} (hb : b ≤ 16) : ∀ l : List Nat, rowR b l = true ↔ RowP b l
  | [] => by
    constructor
    · intro h; cases h
    · intro h; cases h
  | [c] => by
    unfold rowR
    simp [List.range_succ]
    constructor
    · intro h; exact RowP.one h
    · intro h
      obtain ⟨c', t, h1, h2⟩ := h.head
      cases h1
      exact h2
  | c :: d :: t => by
    have ih1 := rowR_iff hb (d :: t)
    have ih2 := rowR_iff hb t
    unfold rowR at ih1 ih2 ⊢
    simp only [Bool.and_eq_true, List.all_eq_true, List.mem_range, decide_eq_true_eq, Bool.or_eq_true, beq_iff_eq, bne_iff_ne] at ih1 ih2 ⊢
    constructor
    · rintro ⟨⟨⟨_, h1⟩, h2⟩, h3⟩
      simp only [List.getD_cons_zero] at h1
      have h4 := h3 1 (by simp)
      simp only [List.getD_cons_succ, List.getD_cons_zero, Nat.sub_self] at h4
      by_cases hd : dval d < b
      · refine RowP.next h1 (ih1.1 ⟨⟨⟨by simp, by simpa using hd⟩, ?_⟩, ?_⟩)
        · simpa using h2
        · intro i hi
          have h5 := h3 (i + 1) (by simp at hi ⊢; omega)
          rw [List.getD_cons_succ] at h5
          cases i with
          | zero => right; simpa using hd
          | succ i =>
            rw [show i + 1 + 1 - 1 = (i + 1 - 1) + 1 by omega, List.getD_cons_succ] at h5
            exact h5
      · rcases h4 with ⟨rfl, _⟩ | h4
        · match t, ih2, h2, h3 with
          | [], _, h2, _ => simp [dval_under] at h2; omega
          | e :: t, ih2, h2, h3 =>
            have h6 := h3 2 (by simp)
            simp only [List.getD_cons_succ, List.getD_cons_zero] at h6
            have he : dval e < b := by
              rcases h6 with ⟨_, h6⟩ | h6
              · exact absurd rfl h6
              · exact h6
            refine RowP.under h1 (ih2.1 ⟨⟨⟨by simp, by simpa using he⟩, ?_⟩, ?_⟩)
            · simpa using h2
            · intro i hi
              have h5 := h3 (i + 2) (by simp at hi ⊢; omega)
              rw [List.getD_cons_succ, List.getD_cons_succ] at h5
              cases i with
              | zero => right; simpa using he
              | succ i =>
                rw [show i + 1 + 2 - 1 = (i + 1 - 1) + 1 + 1 by omega, List.getD_cons_succ, List.getD_cons_succ] at h5
                exact h5
        · exact absurd h4 hd
    · intro h
      cases h with
      | next hc ht =>
        obtain ⟨⟨⟨_, g1⟩, g2⟩, g3⟩ := ih1.2 ht
        simp only [List.getD_cons_zero] at g1
        refine ⟨⟨⟨by simp, by simpa using hc⟩, by simpa using g2⟩, ?_⟩
        intro i hi
        cases i with
        | zero => right; simpa using hc
        | succ i =>
          rw [List.getD_cons_succ]
          have g4 := g3 i (by simp at hi ⊢; omega)
          cases i with
          | zero => right; simpa using g1
          | succ i =>
            rw [show i + 1 + 1 - 1 = (i + 1 - 1) + 1 by omega, List.getD_cons_succ]
            exact g4
      | under hc ht =>
        obtain ⟨⟨⟨g0, g1⟩, g2⟩, g3⟩ := ih2.2 ht
        obtain ⟨e, t', rfl, he⟩ := ht.head
        refine ⟨⟨⟨by simp, by simpa using hc⟩, by simpa using g2⟩, ?_⟩
        intro i hi
        match i with
        | 0 => right; simpa using hc
        | 1 =>
          left
          refine ⟨by simp, ?_⟩
          simp only [Nat.sub_self, List.getD_cons_zero]
          rintro rfl
          rw [dval_under] at hc
          omega
        | i + 2 =>
          rw [List.getD_cons_succ, List.getD_cons_succ]
          have g4 := g3 i (by simp at hi ⊢; omega)
          cases i with
          | zero => right; simpa using he
          | succ i =>
            rw [show i + 1 + 2 - 1 = (i + 1 - 1) + 1 + 1 by omega, List.getD_cons_succ, List.getD_cons_succ]
            exact g4
theorem rowR_OK {b : Nat} (hb : b ≤ 16) (l : List Nat) : rowR b l = rowOK b l := by
  rw [Bool.eq_iff_iff, rowR_iff hb, rowOK_iff hb]
end Go.Proofs.YtcnkcnalabjhgaaDoor
