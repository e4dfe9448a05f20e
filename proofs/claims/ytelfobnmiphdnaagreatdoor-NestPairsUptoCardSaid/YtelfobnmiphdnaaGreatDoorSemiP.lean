/- Layer 8 in plain Lean: which tokens may end a line, the tokens of a text. -/
import Derived.Test.YtelfobnmiphdnaaGreatDoorLexP
namespace Go.Proofs.YtelfobnmiphdnaaGreatDoor
set_option linter.all false

def endWords : List (List UInt8) := [[98, 114, 101, 97, 107], [99, 111, 110, 116, 105, 110, 117, 101], [102, 97, 108, 108, 116, 104, 114, 111, 117, 103, 104], [114, 101, 116, 117, 114, 110]]
def endSigns : List (List UInt8) := [[43, 43], [45, 45], [41], [93], [125]]
/-- May a token end a line? -/
@[irreducible] def endsK (k : Int) (t : ByteArray) : Bool :=
  if k = 1 ∨ (3 ≤ k ∧ k ≤ 7) then true else if k = 2 then endWords.any fun w => t.toList == w else if k = 8 then endSigns.any fun w => t.toList == w else false
def silentK (k : Int) : Bool := k == 10 || k == 11 || k == 12
abbrev Tok := Int × Nat × Nat
/-- The semicolon that is put in where a line may end. -/
def flushZ (q : List Tok × Option Nat) : List Tok × Option Nat := match q.2 with
  | some e => (q.1 ++ [(9, e, e)], none)
  | none => q
def hasNl (s : ByteArray) (t : Tok) : Bool := decide (0 ≤ Lib.indexByte (s.extract t.2.1 t.2.2).data.toList 10)
/-- One lexeme more. -/
def semiStep (s : ByteArray) (q : List Tok × Option Nat) (t : Tok) : List Tok × Option Nat :=
  if silentK t.1 then (if hasNl s t then flushZ q else q)
  else (q.1 ++ [t], if endsK t.1 (s.extract t.2.1 t.2.2) then some t.2.2 else none)
def semiFold (s : ByteArray) (l : List Tok) : List Tok × Option Nat := l.foldl (semiStep s) ([], none)
/-- A text's tokens, and its fault. -/
@[irreducible] def semiAll (s : ByteArray) : List Tok × Int × Int :=
  if (scanAll s).2.1 = 0 ∧ (scanAll s).2.2 = 0 then ((flushZ (semiFold s (scanAll s).1)).1, 0, 0) else ([], (scanAll s).2.1, (scanAll s).2.2)
theorem flushZ_len (q : List Tok × Option Nat) : (flushZ q).1.length ≤ q.1.length + 1 ∧ q.1.length ≤ (flushZ q).1.length := by
  unfold flushZ
  split <;> simp
theorem semiStep_len (s : ByteArray) (q : List Tok × Option Nat) (t : Tok) : (semiStep s q t).1.length ≤ q.1.length + 1 := by
  unfold semiStep
  split
  · split
    · exact (flushZ_len q).1
    · omega
  · simp
theorem semiFold_snoc (s : ByteArray) (l : List Tok) (t : Tok) : semiFold s (l ++ [t]) = semiStep s (semiFold s l) t := by unfold semiFold; rw [List.foldl_append]; rfl
theorem semiFold_len (s : ByteArray) (l : List Tok) : (semiFold s l).1.length ≤ l.length := by
  have : ∀ (l : List Tok) (q : List Tok × Option Nat), (l.foldl (semiStep s) q).1.length ≤ q.1.length + l.length := by
    intro l
    induction l with
    | nil => intro q; simp
    | cons t l ih =>
      intro q
      have h1 := ih (semiStep s q t)
      have h2 := semiStep_len s q t
      simp only [List.foldl_cons, List.length_cons]; omega
  have := this l ([], none)
  simpa [semiFold] using this
/-- Every lexeme lies in the text. -/
theorem alls_in (s : ByteArray) (i : Nat) : ∀ t ∈ (alls s i).1, i ≤ t.2.1 ∧ t.2.1 < t.2.2 ∧ t.2.2 ≤ s.size ∧ t.1 ≠ 0 := by
  by_cases h : i < s.size
  · by_cases hk : (lex s i).1 = 0
    · rw [alls_bad h hk]; intro t ht; cases ht
    · obtain ⟨e, h1, h2, h3⟩ := lex_gt s i h hk
      rw [alls_step h (show lex s i = ((lex s i).1, (e : Int)) by rw [← h1]) hk]
      intro t ht
      rcases List.mem_cons.1 ht with rfl | ht
      · exact ⟨Nat.le_refl _, h2, h3, hk⟩
      · have := alls_in s e t ht
        exact ⟨by omega, this.2⟩
  · rw [alls_end h]; intro t ht; cases ht
termination_by s.size - i
decreasing_by omega
theorem scanAll_in (s : ByteArray) : ∀ t ∈ (scanAll s).1, t.2.1 < t.2.2 ∧ t.2.2 ≤ s.size := by
  unfold scanAll
  split
  · intro t ht; cases ht
  · split
    · intro t ht; cases ht
    · split
      · intro t ht; cases ht
      · intro t ht
        have := alls_in s 0 t ht
        exact ⟨this.2.1, this.2.2.1⟩
theorem scanAll_len (s : ByteArray) : (scanAll s).1.length ≤ 65536 := by
  unfold scanAll
  split
  · simp
  · split
    · simp
    · split
      · simp
      · have := alls_len s 0
        simp only []
        omega
end Go.Proofs.YtelfobnmiphdnaaGreatDoor
namespace Go.Proofs.YtelfobnmiphdnaaGreatDoor
set_option linter.all false

def flushL : Option Nat → List Tok
  | some e => [(9, e, e)]
  | none => []
/-- The tokens of lexemes, from the front; en: where a line may end. -/
def semiRec (s : ByteArray) : Option Nat → List Tok → List Tok
  | en, [] => flushL en
  | en, t :: r => if silentK t.1 then (if hasNl s t then flushL en ++ semiRec s none r else semiRec s en r)
      else t :: semiRec s (if endsK t.1 (s.extract t.2.1 t.2.2) then some t.2.2 else none) r
theorem fold_rec (s : ByteArray) : ∀ (l : List Tok) (o : List Tok) (en : Option Nat), (flushZ (l.foldl (semiStep s) (o, en))).1 = o ++ semiRec s en l
  | [], o, en => by
    cases en with
    | none => simp [flushZ, semiRec, flushL]
    | some e => simp [flushZ, semiRec, flushL]
  | t :: r, o, en => by
    rw [List.foldl_cons]
    unfold semiStep
    rw [semiRec]
    by_cases hs : silentK t.1 = true
    · rw [if_pos hs, if_pos hs]
      by_cases hn : hasNl s t = true
      · rw [if_pos hn, if_pos hn]
        cases en with
        | none => exact (fold_rec s r o none).trans (by simp [flushL])
        | some e => exact (fold_rec s r (o ++ [(9, e, e)]) none).trans (by simp [flushL])
      · rw [if_neg hn, if_neg hn]; exact fold_rec s r o en
    · rw [if_neg hs, if_neg hs]
      exact (fold_rec s r (o ++ [t]) _).trans (by simp)
theorem semiAll_rec (s : ByteArray) (h : (scanAll s).2.1 = 0 ∧ (scanAll s).2.2 = 0) : semiAll s = (semiRec s none (scanAll s).1, 0, 0) := by
  unfold semiAll
  rw [if_pos h]
  have := fold_rec s (scanAll s).1 [] none
  unfold semiFold
  rw [this, List.nil_append]
theorem semiAll_len (s : ByteArray) : (semiAll s).1.length ≤ 65537 := by
  unfold semiAll
  split
  · have h1 := scanAll_len s
    have h2 := semiFold_len s (scanAll s).1
    have h3 := (flushZ_len (semiFold s (scanAll s).1)).1
    simp only []; omega
  · simp
theorem semiRec_some (s : ByteArray) (e : Nat) : ∀ r : List Tok, semiRec s (some e) r = (9, e, e) :: semiRec s none r ∨ semiRec s (some e) r = semiRec s none r
  | [] => Or.inl rfl
  | t :: r => by
    rw [semiRec, semiRec]
    by_cases hs : silentK t.1 = true
    · rw [if_pos hs, if_pos hs]
      by_cases hn : hasNl s t = true
      · rw [if_pos hn, if_pos hn]; exact Or.inl rfl
      · rw [if_neg hn, if_neg hn]; exact semiRec_some s e r
    · rw [if_neg hs, if_neg hs]; exact Or.inr rfl
theorem semiRec_silent (s : ByteArray) (t : Tok) (r : List Tok) (h : silentK t.1 = true) : semiRec s none (t :: r) = semiRec s none r := by
  rw [semiRec, if_pos h]
  split
  · rfl
  · rfl
theorem semiRec_head (s : ByteArray) : ∀ r : List Tok, (∀ t ∈ r, t.2.1 < t.2.2) → ∀ t ∈ (semiRec s none r).head?, t.2.1 < t.2.2
  | [], _ => by intro t ht; simp [semiRec, flushL] at ht
  | x :: r, h => by
    by_cases hs : silentK x.1 = true
    · rw [semiRec_silent s x r hs]
      exact semiRec_head s r fun t ht => h t (List.mem_cons_of_mem _ ht)
    · rw [semiRec, if_neg hs]
      intro t ht
      simp at ht
      subst ht
      exact h _ List.mem_cons_self
/-- In order within a text of so many bytes. -/
def inOrd (sz : Nat) : Nat → List Tok → Prop
  | _, [] => True
  | a, t :: r => a ≤ t.2.1 ∧ t.2.1 ≤ t.2.2 ∧ t.2.2 ≤ sz ∧ inOrd sz t.2.2 r
theorem inOrd_le {sz : Nat} : ∀ {l : List Tok} {a b : Nat}, inOrd sz a l → b ≤ a → inOrd sz b l
  | [], _, _, _, _ => trivial
  | t :: r, a, b, h, hb => by
    obtain ⟨h1, h2, h3, h4⟩ := h
    exact ⟨by omega, h2, h3, h4⟩
theorem alls_ord (s : ByteArray) (i : Nat) : inOrd s.size i (alls s i).1 := by
  by_cases h : i < s.size
  · by_cases hk : (lex s i).1 = 0
    · rw [alls_bad h hk]; trivial
    · obtain ⟨e, h1, h2, h3⟩ := lex_gt s i h hk
      rw [alls_step h (show lex s i = ((lex s i).1, (e : Int)) by rw [← h1]) hk]
      exact ⟨Nat.le_refl _, Nat.le_of_lt h2, h3, alls_ord s e⟩
  · rw [alls_end h]; trivial
termination_by s.size - i
decreasing_by omega
theorem scanAll_ord (s : ByteArray) : inOrd s.size 0 (scanAll s).1 := by
  unfold scanAll
  split
  · trivial
  · split
    · trivial
    · split
      · trivial
      · exact alls_ord s 0
theorem semiRec_ord (s : ByteArray) (sz : Nat) : ∀ (l : List Tok) (en : Option Nat) (a b : Nat), inOrd sz a l → b ≤ a → (∀ e, en = some e → b ≤ e ∧ e ≤ a ∧ e ≤ sz) → inOrd sz b (semiRec s en l)
  | [], en, a, b, _, _, he => by
    cases en with
    | none => trivial
    | some e => obtain ⟨h1, h2, h3⟩ := he e rfl; exact ⟨h1, Nat.le_refl _, h3, trivial⟩
  | t :: r, en, a, b, h, hb, he => by
    obtain ⟨h1, h2, h3, h4⟩ := h
    rw [semiRec]
    by_cases hs : silentK t.1 = true
    · rw [if_pos hs]
      by_cases hn : hasNl s t = true
      · rw [if_pos hn]
        cases en with
        | none => exact semiRec_ord s sz r none t.2.2 b h4 (by omega) (fun e he => by cases he)
        | some e =>
          obtain ⟨g1, g2, g3⟩ := he e rfl
          exact ⟨g1, Nat.le_refl _, g3, semiRec_ord s sz r none t.2.2 e h4 (by omega) (fun e he => by cases he)⟩
      · rw [if_neg hn]
        exact semiRec_ord s sz r en t.2.2 b h4 (by omega) (fun e hee => by obtain ⟨g1, g2, g3⟩ := he e hee; exact ⟨g1, by omega, g3⟩)
    · rw [if_neg hs]
      refine ⟨by omega, h2, h3, semiRec_ord s sz r _ t.2.2 t.2.2 h4 (Nat.le_refl _) (fun e hee => ?_)⟩
      split at hee
      · cases hee; exact ⟨Nat.le_refl _, Nat.le_refl _, h3⟩
      · cases hee
theorem semiAll_ord (s : ByteArray) : inOrd s.size 0 (semiAll s).1 := by
  by_cases h : (scanAll s).2.1 = 0 ∧ (scanAll s).2.2 = 0
  · rw [semiAll_rec s h]
    exact semiRec_ord s s.size _ none 0 0 (scanAll_ord s) (Nat.le_refl _) (fun e he => by cases he)
  · unfold semiAll; rw [if_neg h]; trivial
theorem inOrd_at {sz : Nat} : ∀ {l : List Tok} {a : Nat}, inOrd sz a l → ∀ i (hi : i < l.length), (if h : 0 < i then (l[i - 1]'(by omega)).2.2 else a) ≤ (l[i]).2.1 ∧ (l[i]).2.1 ≤ (l[i]).2.2 ∧ (l[i]).2.2 ≤ sz
  | [], _, _, i, hi => by simp at hi
  | t :: r, a, h, i, hi => by
    obtain ⟨h1, h2, h3, h4⟩ := h
    cases i with
    | zero => rw [dif_neg (by omega)]; exact ⟨h1, h2, h3⟩
    | succ i =>
      rw [dif_pos (by omega)]
      have := inOrd_at h4 i (by simpa using hi)
      simp only [List.getElem_cons_succ]
      refine ⟨?_, this.2⟩
      cases i with
      | zero => rw [dif_neg (by omega)] at this; exact this.1
      | succ j => rw [dif_pos (by omega)] at this; simpa using this.1
end Go.Proofs.YtelfobnmiphdnaaGreatDoor
