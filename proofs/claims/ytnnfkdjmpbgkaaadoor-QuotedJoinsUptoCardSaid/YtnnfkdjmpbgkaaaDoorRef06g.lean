/- Layer 6: the reference's Begun, Scan and Value, walked. -/
import Derived.Test.YtnnfkdjmpbgkaaaDoorRef06f
import Derived.Test.YtnnfkdjmpbgkaaaDoorQuoted6
namespace Go.Proofs.YtnnfkdjmpbgkaaaDoor
set_option linter.all false
open Go.RowKit
attribute [local irreducible] wpStill

set_option maxRecDepth 100000 in
set_option maxHeartbeats 4000000 in
theorem ref_Begun (s : ByteArray) (at' : Int) (hs : s.size ≤ 2147483647) (w : World) :
    Calls Tryd.prog 20 #[.string s, .int .i64 at'] w (rbegunPost s at' w) := by
  by_cases h0 : at' < 0
  · have HQ : RowKit.Hid (rbegunPost s at' w (.returned (.tuple #[.int .u8 0, .int .i64 0, .string ⟨#[]⟩, .int .i64 15])) w) := Lib.hid (by unfold rbegunPost; rw [begun_out (Or.inl h0)]; exact ⟨rfl, Below.refl _ _⟩)
    generalize rbegunPost s at' w = Q at *
    go_enter Tryd.func20, Tryd.ntmps20
    go_wp2_with fail
    refine bodyPost_ret (results_tmp4 rfl _ _ _) rfl ?_
    exact HQ.out
  · by_cases h1 : (s.size : Int) ≤ at'
    · have HQ : RowKit.Hid (rbegunPost s at' w (.returned (.tuple #[.int .u8 0, .int .i64 0, .string ⟨#[]⟩, .int .i64 15])) w) := Lib.hid (by unfold rbegunPost; rw [begun_out (Or.inr h1)]; exact ⟨rfl, Below.refl _ _⟩)
      generalize rbegunPost s at' w = Q at *
      go_enter Tryd.func20, Tryd.ntmps20
      go_wp2_with fail
      refine bodyPost_ret (results_tmp4 rfl _ _ _) rfl ?_
      exact HQ.out
    · obtain ⟨i, rfl⟩ : ∃ i : Nat, at' = i := ⟨at'.toNat, (Int.toNat_of_nonneg (by omega)).symm⟩
      have hi : i < s.size := by omega
      by_cases h34 : bt s i = 34
      · exact ref_Begun34 s i hi h34 hs w
      · by_cases h39 : bt s i = 39
        · exact ref_Begun39 s i hi h39 hs w
        · by_cases h96 : bt s i = 96
          · exact ref_Begun96 s i hi h96 hs w
          · have hmk : isMark (bt s i) = false := by unfold isMark; simp [h34, h39, h96]
            have HQ : RowKit.Hid (rbegunPost s i w (.returned (.tuple #[.int .u8 0, .int .i64 0, .string ⟨#[]⟩, .int .i64 15])) w) := Lib.hid (by unfold rbegunPost; rw [begun_no hmk]; exact ⟨rfl, Below.refl _ _⟩)
            generalize rbegunPost s i w = Q at *
            have hxx : ∀ h, ((s[i]'h).toNat : Int) = (bt s i : Int) := fun h => by rw [bt_at s i h]
            have h34' : ¬ (bt s i : Int) = 34 := by omega
            have h39' : ¬ (bt s i : Int) = 39 := by omega
            have h96' : ¬ (bt s i : Int) = 96 := by omega
            have b34 : ((bt s i : Int) == 34) = false := by rw [beq_eq_false_iff_ne]; exact h34'
            have b39 : ((bt s i : Int) == 39) = false := by rw [beq_eq_false_iff_ne]; exact h39'
            have b96 : ((bt s i : Int) == 96) = false := by rw [beq_eq_false_iff_ne]; exact h96'
            have n34 : ((bt s i : Int) != 34) = true := by simp [bne, b34]
            have n39 : ((bt s i : Int) != 39) = true := by simp [bne, b39]
            have n96 : ((bt s i : Int) != 96) = true := by simp [bne, b96]
            have hnn1 : ¬ s.size ≤ i := by omega
            have hnn2 : ¬ (i : Int) < 0 := by omega
            generalize bt s i = c at *
            go_enter Tryd.func20, Tryd.ntmps20
            go_wp2_with fail
            refine bodyPost_ret (results_tmp4 rfl _ _ _) rfl ?_
            exact HQ.out
set_option maxRecDepth 100000 in
set_option maxHeartbeats 4000000 in
theorem ref_Scan06 (s : ByteArray) (at' : Int) (hs : s.size ≤ 2147483647) (w0 : World) :
    Calls Tryd.prog 11 #[.string s, .int .i64 at'] w0 (scanPost s at' w0) := by
  have CB := Lib.hid (ref_Begun s at' hs w0)
  have HQ : RowKit.Hid (∀ w', Below w0.heap.size w0 w' → scanPost s at' w0 (.returned (.tuple #[.int .u8 (begun s at').1, .int .i64 (begun s at').2.1, .int .i64 (begun s at').2.2.2])) w') :=
    Lib.hid fun w' h1 => by unfold scanPost; exact ⟨rfl, h1⟩
  generalize scanPost s at' w0 = Q at *
  go_enter Tryd.func11, Tryd.ntmps11
  go_wp2_with fail
  refine CB.out.mono ?_
  intro e w1 h1
  unfold rbegunPost at h1
  obtain ⟨rfl, hb⟩ := h1
  unfold begunVals
  generalize begun s at' = q at *
  go_wp2_with fail
  exact HQ.out _ hb
set_option maxRecDepth 100000 in
set_option maxHeartbeats 4000000 in
theorem ref_Value06 (s : ByteArray) (hs : s.size ≤ 2147483647) (w0 : World) :
    Calls Tryd.prog 14 #[.string s] w0 (valuePost s w0) := by
  have CB := Lib.hid (ref_Begun s 0 hs w0)
  have HQ : RowKit.Hid (∀ w' v err, Below w0.heap.size w0 w' → value s = (v, err) → valuePost s w0 (.returned (.tuple #[.string v, .int .i64 err])) w') :=
    Lib.hid fun w' v err h1 h2 => by unfold valuePost; rw [h2]; exact ⟨rfl, h1⟩
  generalize valuePost s w0 = Q at *
  have hV : value s = if (begun s 0).2.2.2 = 0 ∧ (begun s 0).2.1 = s.size then ((begun s 0).2.2.1, 0) else (ByteArray.empty, 4) := by unfold value; rfl
  have HV := Lib.hid hV
  clear hV
  go_enter Tryd.func14, Tryd.ntmps14
  go_wp2_with fail
  refine CB.out.mono ?_
  intro e w1 h1
  unfold rbegunPost at h1
  obtain ⟨rfl, hb⟩ := h1
  unfold begunVals
  generalize begun s 0 = q at *
  obtain ⟨k, t, v, err⟩ := q
  have HB := Lib.hid hb
  clear hb
  by_cases h1 : err = 0
  · by_cases h2 : t = s.size
    · go_wp2_with fail
      exact HQ.out _ _ _ HB.out (by rw [HV.out, if_pos ⟨h1, h2⟩])
    · go_wp2_with fail
      exact HQ.out _ _ _ HB.out (by rw [HV.out, if_neg (fun h => h2 h.2)]; rfl)
  · go_wp2_with fail
    exact HQ.out _ _ _ HB.out (by rw [HV.out, if_neg (fun h => h1 h.1)]; rfl)
end Go.Proofs.YtnnfkdjmpbgkaaaDoor
