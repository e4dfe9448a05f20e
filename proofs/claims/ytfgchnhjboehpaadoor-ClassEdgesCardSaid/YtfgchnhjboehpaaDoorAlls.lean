/- All of layer 1, by one contract for every text. -/
import Derived.Test.YtfgchnhjboehpaaDoorRunesBadWalk
namespace Go.Proofs.YtfgchnhjboehpaaDoor
open Go.RowKit

/-- What All answers: the characters; none, if the text is bad. -/
@[irreducible] def charsOk (s : ByteArray) : List Int := if bad s < 0 then ints (chars s) else []
theorem charsOk_good {s : ByteArray} (h : bad s < 0) : charsOk s = ints (chars s) := by unfold charsOk; rw [if_pos h]
theorem charsOk_bad {s : ByteArray} (h : 0 ≤ bad s) : charsOk s = [] := by unfold charsOk; rw [if_neg (by omega)]
theorem charsOk_length (s : ByteArray) : (charsOk s).length ≤ s.size := by
  unfold charsOk; split
  · rw [ints_length]; exact chars_length s
  · simp
theorem charsOk_32 (s : ByteArray) : ∀ x ∈ charsOk s, -2147483648 ≤ x ∧ x ≤ 2147483647 := by
  unfold charsOk; split
  · exact chars_32 s
  · simp
theorem runes_Alls (s : ByteArray) (w : World) (hT : Tabs w) (hs : s.size ≤ 1099511627775) :
    Calls Tryd.prog 21 #[.string s] w fun e w' => ∃ v, e = .returned (.tuple #[v, .bool (decide (bad s < 0))]) ∧ Below w.heap.size w w' ∧ w'.ownsRow w.heap.size 21 1 v (charsOk s).length ((charsOk s).map (Value.int .i32)) := by
  by_cases h : bad s < 0
  · refine (runes_All s w hT h hs).mono ?_
    rintro e w' ⟨v, rfl, hb, hown⟩
    exact ⟨v, by simp [h], hb, by rw [charsOk_good h, ints_length, ← runeVals_ints]; exact hown⟩
  · refine (runes_All_bad s w hT (by omega)).mono ?_
    rintro e w' ⟨rfl, hb⟩
    exact ⟨.slice none 0 0, by simp [h], hb, by rw [charsOk_bad (by omega)]; exact World.ownsRow_nil _ _ _ _⟩
theorem ref_Alls (s : ByteArray) (w : World) (hs : s.size ≤ 1099511627775) :
    Calls Tryd.prog 22 #[.string s] w fun e w' => ∃ v, e = .returned (.tuple #[v, .bool (decide (bad s < 0))]) ∧ Below w.heap.size w w' ∧ w'.ownsRow w.heap.size 2 1 v (charsOk s).length ((charsOk s).map (Value.int .i64)) := by
  by_cases h : bad s < 0
  · refine (ref_All s w hs h).mono ?_
    rintro e w' ⟨v, rfl, hb, hown⟩
    exact ⟨v, by simp [h], hb, by rw [charsOk_good h, ints_length, ← longVals_ints]; exact hown⟩
  · refine (ref_All_bad s w hs (by omega)).mono ?_
    rintro e w' ⟨rfl, hb⟩
    exact ⟨.slice none 0 0, by simp [h], hb, by rw [charsOk_bad (by omega)]; exact World.ownsRow_nil _ _ _ _⟩
end Go.Proofs.YtfgchnhjboehpaaDoor
