/- The statement RunesBad, walked: the call returns true. -/
import Derived.Test.YtfgchnhjboehpaaDoorLaw01
import Derived.Test.YtfgchnhjboehpaaDoorRef01b
import Derived.Test.YtfgchnhjboehpaaDoorSame
namespace Go.Proofs.YtfgchnhjboehpaaDoor
open Go.RowKit

def ints (l : List Nat) : List Int := l.map fun (x : Nat) => (x : Int)
theorem runeVals_ints (l : List Nat) : runeVals l = (ints l).map (Value.int .i32) := by simp [runeVals, ints]
theorem longVals_ints (l : List Nat) : longVals l = (ints l).map (Value.int .i64) := by simp [longVals, ints]
theorem scan_le (s : ByteArray) (i : Nat) : ∀ x ∈ (scan s i).1, x ≤ 1114111 := by
  refine scan_ind s (fun i => ∀ x ∈ (scan s i).1, x ≤ 1114111) ?_ ?_ ?_ i
  · intro i h x hx; rw [scan_end h] at hx; cases hx
  · intro i h h0 x hx; rw [scan_bad h h0] at hx; cases hx
  · intro i h h0 ih x hx
    rw [scan_step h h0] at hx
    rcases List.mem_cons.1 hx with rfl | hx
    · exact rd_le s i
    · exact ih x hx
theorem chars_32 (s : ByteArray) : ∀ x ∈ ints (chars s), -2147483648 ≤ x ∧ x ≤ 2147483647 := by
  intro x hx
  obtain ⟨n, hn, rfl⟩ := List.mem_map.1 hx
  unfold chars at hn
  have := scan_le s 0 n hn
  omega
theorem ints_length (l : List Nat) : (ints l).length = l.length := by simp [ints]
theorem rowInts_nil (w : World) (k : IntKind) : RowInts w (.slice none 0 0) k [] := ⟨rfl, none, 0, rfl, Nat.le_refl _, fun _ => rfl, fun h => absurd h (by simp)⟩
set_option maxHeartbeats 1000000 in
theorem RunesBad_walk (s : ByteArray) (hs : s.size ≤ 1048576) (w : World) (hT : Tabs w) :
    Calls Tryd.prog 5 #[.string s] w fun e w' => e = .returned (.bool true) ∧ Below w.heap.size w w' := by
  have C3 := Lib.hid (fun w hT => runes_Bad s w hT)
  have C4 := Lib.hid (fun w => ref_Bad s w (by omega))
  by_cases hbad : bad s < 0
  · have C1 := Lib.hid (fun w hT => runes_All s w hT hbad (by omega))
    have C2 := Lib.hid (fun w => ref_All s w (by omega) hbad)
    have HB := Lib.hid hbad
    clear hbad
    go_enter Tryd.func5, Tryd.ntmps5
    go_wp2_with fail
    refine (C1.out _ hT).mono ?_; rintro e w1 ⟨v1, rfl, hb1, hown1⟩
    go_wp2_with fail
    refine (C2.out _).mono ?_; rintro e w2 ⟨v2, rfl, hb2, hown2⟩
    have hb12 := bthen hb1 hb2
    go_wp2_with fail
    refine (law01_fixed _ (hT.below hb12)).mono ?_; rintro e w3 ⟨rfl, hb3⟩
    have hb13 := bthen hb12 hb3
    go_wp2_with fail
    refine (C3.out _ (hT.below hb13)).mono ?_; rintro e w4 ⟨rfl, hb4⟩
    go_wp2_with fail
    refine (C4.out _).mono ?_; rintro e w5 ⟨rfl, hb5⟩
    have hb14 := bthen hb13 hb4
    have hb15 := bthen hb14 hb5
    have r1 : RowInts w5 v1 .i32 (ints (chars s)) := (RowInts.of_owns (by rw [← runeVals_ints]; exact hown1)).below (bthen (bthen (bthen hb2 hb3) hb4) hb5)
    have r2 : RowInts w5 v2 .i64 (ints (chars s)) := (RowInts.of_owns (by rw [← longVals_ints]; exact hown2)).below (bthen (bthen hb3 hb4) hb5)
    have R1 := Lib.hid r1; have R2 := Lib.hid r2
    clear r1 r2 hown1 hown2
    go_wp2_with fail
    have hlen := chars_length s
    refine (law01_same v1 v2 _ _ _ R1.out R2.out (chars_32 s) (by rw [ints_length]; omega)).mono ?_; rintro e w6 ⟨rfl, hb6⟩
    have he : (ints (chars s) == ints (chars s)) = true := by simp
    rw [he]
    have hb16 := bthen hb15 hb6
    clear he
    go_wp2_with fail
    go_ret
    exact ⟨rfl, hb16⟩
  · have hbad2 : 0 ≤ bad s := by omega
    have C1 := Lib.hid (fun w hT => runes_All_bad s w hT hbad2)
    have C2 := Lib.hid (fun w => ref_All_bad s w (by omega) hbad2)
    clear hbad hbad2
    go_enter Tryd.func5, Tryd.ntmps5
    go_wp2_with fail
    refine (C1.out _ hT).mono ?_; rintro e w1 ⟨rfl, hb1⟩
    go_wp2_with fail
    refine (C2.out _).mono ?_; rintro e w2 ⟨rfl, hb2⟩
    have hb12 := bthen hb1 hb2
    go_wp2_with fail
    refine (law01_fixed _ (hT.below hb12)).mono ?_; rintro e w3 ⟨rfl, hb3⟩
    have hb13 := bthen hb12 hb3
    go_wp2_with fail
    refine (C3.out _ (hT.below hb13)).mono ?_; rintro e w4 ⟨rfl, hb4⟩
    go_wp2_with fail
    refine (C4.out _).mono ?_; rintro e w5 ⟨rfl, hb5⟩
    have hb14 := bthen hb13 hb4
    have hb15 := bthen hb14 hb5
    go_wp2_with fail
    refine (law01_same _ _ [] [] _ (rowInts_nil _ _) (rowInts_nil _ _) (by simp) (by simp)).mono ?_; rintro e w6 ⟨rfl, hb6⟩
    have hb16 := bthen hb15 hb6
    go_wp2_with fail
    go_ret
    exact ⟨rfl, hb16⟩
end Go.Proofs.YtfgchnhjboehpaaDoor
