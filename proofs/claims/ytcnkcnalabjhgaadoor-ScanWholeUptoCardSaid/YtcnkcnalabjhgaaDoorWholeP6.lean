/- A lexeme by itself, in plain Lean: all lexemes of a text, one behind the other, each by itself a lexeme of its kind. -/
import Derived.Test.YtcnkcnalabjhgaaDoorWholeP
import Derived.Test.YtcnkcnalabjhgaaDoorSemiP
import Derived.Test.YtcnkcnalabjhgaaDoorScan6
namespace Go.Proofs.YtcnkcnalabjhgaaDoor
set_option linter.all false

/-- What the program's One says of a lexeme by itself. -/
def alone (s : ByteArray) (t : Tok) : Prop := oneZ (s.extract t.2.1 t.2.2) 0 = (t.1, 0, ((t.2.2 - t.2.1 : Nat) : Int), 0)
theorem one_piece {s : ByteArray} {i : Nat} (hi : i < s.size) (hc : cleanZ s i < 0) (e : Nat) (h : (lex s i).1 ≠ 0) (hE : (lex s i).2 = e) : oneZ (s.extract i e) 0 = ((lex s i).1, 0, ((e - i : Nat) : Int), 0) := by
  obtain ⟨e', he', h1, h2, hl⟩ := lex_piece s i hi h
  obtain rfl : e' = e := by omega
  have hce := lex_clean s i hi hc e' h hE
  have hpc := piece_clean (Nat.le_of_lt h1) h2 hce 0 (by omega) hc
  have hz := piece_size (Nat.le_of_lt h1) h2
  have hlead := (rd_lead s i (clean_good hc hi).2.1).1
  have b0 := piece_bt (s := s) (i := i) (e := e') (j := 0) (by omega) h2
  rw [Nat.add_zero] at b0
  unfold oneZ
  rw [if_neg (by rw [hz]; omega), if_neg (by
    unfold clean
    rw [Int.toNat_zero, b0]
    intro g
    rcases g with g | g
    · omega
    · exact hlead g)]
  unfold nextZ
  rw [Int.toNat_zero, hl, if_neg h]
  rfl
/-- One behind the other up to the text's end, each alone a lexeme. -/
def contig (s : ByteArray) : Nat → List Tok → Prop
  | a, [] => a = s.size
  | a, t :: r => t.2.1 = a ∧ a < t.2.2 ∧ t.2.2 ≤ s.size ∧ alone s t ∧ contig s t.2.2 r
theorem alls_contig (s : ByteArray) (i : Nat) (hi : i ≤ s.size) (hc : cleanZ s i < 0) (h : (alls s i).2 = none) : contig s i (alls s i).1 := by
  by_cases hlt : i < s.size
  · by_cases hk : (lex s i).1 = 0
    · rw [alls_bad hlt hk] at h; cases h
    · obtain ⟨e, h1, h2, h3⟩ := lex_gt s i hlt hk
      have hl : lex s i = ((lex s i).1, (e : Int)) := by rw [← h1]
      rw [alls_step hlt hl hk] at h ⊢
      exact ⟨rfl, h2, h3, one_piece hlt hc e hk h1, alls_contig s e h3 (lex_clean s i hlt hc e hk h1) h⟩
  · rw [alls_end hlt]; show i = s.size; omega
termination_by s.size - i
decreasing_by omega
theorem scanAll_contig (s : ByteArray) (h : (scanAll s).2.1 = 0) : contig s 0 (scanAll s).1 := by
  unfold scanAll at h ⊢
  split
  · rename_i h1; rw [if_pos h1] at h; cases h
  · rename_i h1
    rw [if_neg h1] at h
    split
    · rename_i h2; rw [if_pos h2] at h; cases h
    · rename_i h2
      rw [if_neg h2] at h
      unfold clean at h2
      cases ha : (alls s 0).2 with
      | some i => rw [ha] at h; cases h
      | none => exact alls_contig s 0 (Nat.zero_le _) (by omega) ha
theorem cleanZ_le (s : ByteArray) (i : Nat) : cleanZ s i ≤ s.size := by
  by_cases hi : i < s.size
  · by_cases hb : badHere s i = true
    · rw [clean_bad hi hb]; omega
    · have hb : badHere s i = false := by simpa using hb
      rw [clean_step hi hb]
      have := good_width hb
      exact cleanZ_le s _
  · rw [clean_end hi]; omega
termination_by s.size - i
decreasing_by omega
theorem alls_fault (s : ByteArray) (i j : Nat) (h : (alls s i).2 = some j) : j < s.size := by
  by_cases hlt : i < s.size
  · by_cases hk : (lex s i).1 = 0
    · rw [alls_bad hlt hk] at h; cases h; exact hlt
    · obtain ⟨e, h1, h2, h3⟩ := lex_gt s i hlt hk
      rw [alls_step hlt (show lex s i = ((lex s i).1, (e : Int)) by rw [← h1]) hk] at h
      exact alls_fault s e j h
  · rw [alls_end hlt] at h; cases h
termination_by s.size - i
decreasing_by omega
theorem scanAll_fault (s : ByteArray) (h : (scanAll s).2.1 ≠ 0) : (scanAll s).1 = [] ∧ 0 ≤ (scanAll s).2.2 ∧ (scanAll s).2.2 ≤ s.size := by
  unfold scanAll at h ⊢
  split
  · exact ⟨rfl, Int.le_refl _, by simp only []; omega⟩
  · rename_i h1
    rw [if_neg h1] at h
    split
    · rename_i h2
      refine ⟨rfl, h2, ?_⟩
      unfold clean
      exact cleanZ_le s 0
    · rename_i h2
      rw [if_neg h2] at h
      cases ha : (alls s 0).2 with
      | some i =>
        have := alls_fault s 0 i ha
        simp only []
        exact ⟨trivial, by omega, by omega⟩
      | none => rw [ha] at h; exact absurd rfl h
end Go.Proofs.YtcnkcnalabjhgaaDoor
