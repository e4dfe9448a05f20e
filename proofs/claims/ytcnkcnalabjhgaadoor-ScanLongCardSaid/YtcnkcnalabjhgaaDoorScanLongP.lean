/- A text of sps alone, in plain Lean: one lexeme. -/
import Derived.Test.YtcnkcnalabjhgaaDoorLexP
namespace Go.Proofs.YtcnkcnalabjhgaaDoor
set_option linter.all false

theorem blankTo_all {s : ByteArray} (h : ∀ i, i < s.size → bt s i = 32) (i : Nat) (hi : i ≤ s.size) : blankTo s i = s.size := by
  rw [blankTo]
  by_cases hlt : i < s.size
  · rw [if_pos ⟨hlt, by rw [h i hlt]; rfl⟩]
    exact blankTo_all h (i + 1) hlt
  · rw [if_neg (fun g => hlt g.1)]; omega
termination_by s.size - i
decreasing_by omega
theorem cleanZ_all {s : ByteArray} (h : ∀ i, i < s.size → bt s i = 32) (i : Nat) : cleanZ s i = -1 := by
  rw [cleanZ]
  by_cases hlt : i < s.size
  · have hr := rd_ascii hlt (by rw [h i hlt]; omega)
    rw [h i hlt] at hr
    rw [dif_pos hlt, dif_neg (by unfold badHere; rw [hr]; simp), hr]
    exact cleanZ_all h (i + 1)
  · rw [dif_neg hlt]
termination_by s.size - i
decreasing_by omega
theorem scanAll_blanks {s : ByteArray} (h : ∀ i, i < s.size → bt s i = 32) (h0 : 0 < s.size) (hm : s.size ≤ 65536) : scanAll s = ([(10, 0, s.size)], 0, 0) := by
  have hr := rd_ascii h0 (by rw [h 0 h0]; omega)
  rw [h 0 h0] at hr
  have hl : lex s 0 = (10, ((s.size : Nat) : Int)) := by
    unfold lex
    rw [hr, if_neg (by decide), if_pos (by rfl), blankTo_all h 0 (Nat.zero_le _)]
  unfold scanAll
  rw [if_neg (by omega), if_neg (by unfold clean; rw [cleanZ_all h 0]; omega), alls_step h0 hl (by decide), alls_end (Nat.lt_irrefl _)]
theorem scanAll_long {s : ByteArray} (h : 65536 < s.size) : scanAll s = ([], 2, 0) := by
  unfold scanAll; rw [if_pos h]
/-- So many sps. -/
def sps (n : Nat) : ByteArray := strOfNums (List.replicate n 32)
theorem blanks_size (n : Nat) : (sps n).size = n := by
  unfold sps strOfNums
  show ((List.map _ (List.replicate n (32 : Int))).toArray).size = n
  simp
theorem blanks_at (n i : Nat) (h : i < (sps n).size) : bt (sps n) i = 32 := by
  rw [blanks_size] at h
  unfold bt sps strOfNums
  have : ((List.map (fun n : Int => UInt8.ofNat n.toNat) (List.replicate n (32 : Int))).toArray)[i]! = 32 := by simp [h]
  show (((List.map (fun n : Int => UInt8.ofNat n.toNat) (List.replicate n (32 : Int))).toArray)[i]!).toNat = 32
  rw [this]; rfl
theorem blanks_all (n : Nat) (h0 : 0 < n) (hm : n ≤ 65536) : scanAll (sps n) = ([(10, 0, n)], 0, 0) := by
  have := scanAll_blanks (s := sps n) (blanks_at n) (by rw [blanks_size]; exact h0) (by rw [blanks_size]; exact hm)
  rw [blanks_size] at this
  exact this
theorem blanks_long (n : Nat) (h : 65536 < n) : scanAll (sps n) = ([], 2, 0) := scanAll_long (by rw [blanks_size]; exact h)
end Go.Proofs.YtcnkcnalabjhgaaDoor
