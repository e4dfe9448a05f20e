/- Plain Lean: the character at a place hangs on its own bytes alone. -/
import Derived.Test.YtcnkcnalabjhgaaDoorQuotedP2
namespace Go.Proofs.YtcnkcnalabjhgaaDoor
set_option linter.all false

theorem bt_left (s y : ByteArray) (i : Nat) (h : i < s.size) : bt (s ++ y) i = bt s i := by unfold bt; rw [get!_left _ _ _ h]
theorem refAcc_left (m y : ByteArray) (i n : Nat) (h : i + n ≤ m.size) : ∀ k, k ≤ n → refAcc (m ++ y) i n k = refAcc m i n k
  | 0, _ => by rw [refAcc, refAcc]
  | 1, hk => by rw [refAcc, refAcc, bt_left m y i (by omega)]
  | k + 2, hk => by rw [refAcc, refAcc, refAcc_left m y i n h (k + 1) (by omega), bt_left m y (i + (k + 1)) (by omega)]
theorem refTry_left (m y : ByteArray) (i n : Nat) (h : i + n ≤ m.size) : refTry (m ++ y) i n = refTry m i n := by
  unfold refTry
  have e : (m ++ y).extract i (i + n) = m.extract i (i + n) := by
    apply ByteArray.ext
    apply Array.ext'
    rw [extract_data, extract_data, data_append, List.drop_append_of_le_length (by rw [← size_data]; omega), List.take_append_of_le_length (by rw [List.length_drop, ← size_data]; omega)]
  rw [e]
  have hv : refV (m ++ y) i n = refV m i n := by
    unfold refV
    exact refAcc_left m y i n h n (Nat.le_refl n)
  rw [hv]
theorem rd_back (m y : ByteArray) (i : Nat) (h0 : (rd (m ++ y) i).2 ≠ 0) (h : i + (rd (m ++ y) i).2 ≤ m.size) : rd m i = rd (m ++ y) i := by
  have hi : i < (m ++ y).size := by rw [ByteArray.size_append]; omega
  rcases rd_cases (m ++ y) i hi with ⟨hc, _⟩ | ⟨h1, h4, hn, hmay, hform, _⟩
  · exact absurd (by rw [hc]) h0
  · generalize hq : rd (m ++ y) i = q at *
    obtain ⟨r, n⟩ := q
    simp only [] at *
    have hsz : (form r).size = n := by rw [hform, ByteArray.size_extract]; omega
    have hr := form_read m i r hmay (by omega) (fun k hk => by
      rw [hform, get!_extract (m ++ y) i (i + n) k (by omega) hn, get!_left m y (i + k) (by omega)])
    rw [hr, hsz, Int.toNat_natCast]
theorem extract_whole (s : ByteArray) : s.extract 0 s.size = s := by
  apply ByteArray.ext
  apply Array.ext'
  rw [extract_data, List.drop_zero, List.take_of_length_le (by rw [← size_data]; omega)]
theorem cut_at (s : ByteArray) (k : Nat) (h : k ≤ s.size) : s.extract 0 k ++ s.extract k s.size = s := by
  rw [extract_all s 0 k s.size (Nat.zero_le _) h, extract_whole]
end Go.Proofs.YtcnkcnalabjhgaaDoor
