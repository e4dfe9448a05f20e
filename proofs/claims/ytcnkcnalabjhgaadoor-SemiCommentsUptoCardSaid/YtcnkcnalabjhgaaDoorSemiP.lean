/- Layer 8 in plain Lean: which tokens may end a line, the tokens of a text. -/
import Derived.Test.YtcnkcnalabjhgaaDoorLexP
namespace Go.Proofs.YtcnkcnalabjhgaaDoor
set_option linter.all false

def endWords : List (List UInt8) := [[98, 114, 101, 97, 107], [99, 111, 110, 116, 105, 110, 117, 101], [102, 97, 108, 108, 116, 104, 114, 111, 117, 103, 104], [114, 101, 116, 117, 114, 110]]
def endSigns : List (List UInt8) := [[43, 43], [45, 45], [41], [93], [125]]
/-- May a token end a line? -/
@[irreducible] def endsK (k : Int) (t : ByteArray) : Bool :=
  if k = 1 ∨ (3 ≤ k ∧ k ≤ 7) then true else if k = 2 then endWords.any fun w => t.toList == w else if k = 8 then endSigns.any fun w => t.toList == w else false
def silentK (k : Int) : Bool := k == 10 || k == 11 || k == 12
abbrev Tok := Int × Nat × Nat
/-- The semicolon that is put in where a line may end. -/
def flushZ (q : List Tok × Option Nat) : List Tok × Option Nat := match q.2 with
  | some e => (q.1 ++ [(9, e, e)], none)
  | none => q
def hasNl (s : ByteArray) (t : Tok) : Bool := decide (0 ≤ Lib.indexByte (s.extract t.2.1 t.2.2).data.toList 10)
/-- One lexeme more. -/
def semiStep (s : ByteArray) (q : List Tok × Option Nat) (t : Tok) : List Tok × Option Nat :=
  if silentK t.1 then (if hasNl s t then flushZ q else q)
  else (q.1 ++ [t], if endsK t.1 (s.extract t.2.1 t.2.2) then some t.2.2 else none)
def semiFold (s : ByteArray) (l : List Tok) : List Tok × Option Nat := l.foldl (semiStep s) ([], none)
/-- A text's tokens, and its fault. -/
@[irreducible] def semiAll (s : ByteArray) : List Tok × Int × Int :=
  if (scanAll s).2.1 = 0 ∧ (scanAll s).2.2 = 0 then ((flushZ (semiFold s (scanAll s).1)).1, 0, 0) else ([], (scanAll s).2.1, (scanAll s).2.2)
theorem flushZ_len (q : List Tok × Option Nat) : (flushZ q).1.length ≤ q.1.length + 1 ∧ q.1.length ≤ (flushZ q).1.length := by
  unfold flushZ
  split <;> simp
theorem semiStep_len (s : ByteArray) (q : List Tok × Option Nat) (t : Tok) : (semiStep s q t).1.length ≤ q.1.length + 1 := by
  unfold semiStep
  split
  · split
    · exact (flushZ_len q).1
    · omega
  · simp
theorem semiFold_snoc (s : ByteArray) (l : List Tok) (t : Tok) : semiFold s (l ++ [t]) = semiStep s (semiFold s l) t := by unfold semiFold; rw [List.foldl_append]; rfl
theorem semiFold_len (s : ByteArray) (l : List Tok) : (semiFold s l).1.length ≤ l.length := by
  have : ∀ (l : List Tok) (q : List Tok × Option Nat), (l.foldl (semiStep s) q).1.length ≤ q.1.length + l.length := by
    intro l
    induction l with
    | nil => intro q; simp
    | cons t l ih =>
      intro q
      have h1 := ih (semiStep s q t)
      have h2 := semiStep_len s q t
      simp only [List.foldl_cons, List.length_cons]; omega
  have := this l ([], none)
  simpa [semiFold] using this
/-- Every lexeme lies in the text. -/
theorem alls_in (s : ByteArray) (i : Nat) : ∀ t ∈ (alls s i).1, i ≤ t.2.1 ∧ t.2.1 < t.2.2 ∧ t.2.2 ≤ s.size ∧ t.1 ≠ 0 := by
  by_cases h : i < s.size
  · by_cases hk : (lex s i).1 = 0
    · rw [alls_bad h hk]; intro t ht; cases ht
    · obtain ⟨e, h1, h2, h3⟩ := lex_gt s i h hk
      rw [alls_step h (show lex s i = ((lex s i).1, (e : Int)) by rw [← h1]) hk]
      intro t ht
      rcases List.mem_cons.1 ht with rfl | ht
      · exact ⟨Nat.le_refl _, h2, h3, hk⟩
      · have := alls_in s e t ht
        exact ⟨by omega, this.2⟩
  · rw [alls_end h]; intro t ht; cases ht
termination_by s.size - i
decreasing_by omega
theorem scanAll_in (s : ByteArray) : ∀ t ∈ (scanAll s).1, t.2.1 < t.2.2 ∧ t.2.2 ≤ s.size := by
  unfold scanAll
  split
  · intro t ht; cases ht
  · split
    · intro t ht; cases ht
    · split
      · intro t ht; cases ht
      · intro t ht
        have := alls_in s 0 t ht
        exact ⟨this.2.1, this.2.2.1⟩
theorem scanAll_len (s : ByteArray) : (scanAll s).1.length ≤ 65536 := by
  unfold scanAll
  split
  · simp
  · split
    · simp
    · split
      · simp
      · have := alls_len s 0
        simp only []
        omega
end Go.Proofs.YtcnkcnalabjhgaaDoor
