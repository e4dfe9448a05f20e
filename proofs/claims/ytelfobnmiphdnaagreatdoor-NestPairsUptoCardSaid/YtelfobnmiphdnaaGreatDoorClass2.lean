/- The program's further functions of layer 2, walked. -/
import Derived.Test.YtelfobnmiphdnaaGreatDoorClass
namespace Go.Proofs.YtelfobnmiphdnaaGreatDoor
open Go.RowKit

set_option maxRecDepth 100000 in
set_option maxHeartbeats 1000000 in
theorem class_Digit (r : Int) (hr : -2147483648 ≤ r ∧ r ≤ 2147483647) (w : World) :
    Calls Tryz.prog 78 #[.int .i32 r] w fun e w' => e = .returned (.bool (digit r)) ∧ w = w' := by
  have i0 : ∀ w, (Instr.index 106 (.agg #[.int .i32 48, .int .i32 1632, .int .i32 2406, .int .i32 3664, .int .i32 65296]) (.int .i64 0)).run Tryz.prog w = .ok (.int .i32 48) w := fun _ => by kernel_rfl
  have i1 : ∀ w, (Instr.index 106 (.agg #[.int .i32 48, .int .i32 1632, .int .i32 2406, .int .i32 3664, .int .i32 65296]) (.int .i64 1)).run Tryz.prog w = .ok (.int .i32 1632) w := fun _ => by kernel_rfl
  have i2 : ∀ w, (Instr.index 106 (.agg #[.int .i32 48, .int .i32 1632, .int .i32 2406, .int .i32 3664, .int .i32 65296]) (.int .i64 2)).run Tryz.prog w = .ok (.int .i32 2406) w := fun _ => by kernel_rfl
  have i3 : ∀ w, (Instr.index 106 (.agg #[.int .i32 48, .int .i32 1632, .int .i32 2406, .int .i32 3664, .int .i32 65296]) (.int .i64 3)).run Tryz.prog w = .ok (.int .i32 3664) w := fun _ => by kernel_rfl
  have i4 : ∀ w, (Instr.index 106 (.agg #[.int .i32 48, .int .i32 1632, .int .i32 2406, .int .i32 3664, .int .i32 65296]) (.int .i64 4)).run Tryz.prog w = .ok (.int .i32 65296) w := fun _ => by kernel_rfl
  go_enter Tryz.func78, Tryz.ntmps78
  go_wp2_with fail
  go_rounds 7
  all_goals go_ret
  all_goals (refine ⟨ret_bool ?_, rfl⟩; clear i0 i1 i2 i3 i4; rw [Bool.eq_iff_iff]; unfold digit inR digitRanges; simp; omega)
theorem class_Blank (r : Int) (w : World) :
    Calls Tryz.prog 50 #[.int .i32 r] w fun e w' => e = .returned (.bool (blank r)) ∧ w = w' := by
  go_enter Tryz.func50, Tryz.ntmps50
  go_wp2_with fail
  all_goals go_ret
  all_goals (refine ⟨ret_bool ?_, rfl⟩; rw [Bool.eq_iff_iff]; unfold blank; simp; try omega)
theorem class_Base (r : Int) (hr : -2147483648 ≤ r ∧ r ≤ 2147483647) (w : World) :
    Calls Tryz.prog 125 #[.int .i32 r] w fun e w' => e = .returned (.int .i64 (base r)) ∧ w = w' := by
  go_enter Tryz.func125, Tryz.ntmps125
  go_wp2_with fail
  all_goals go_ret
  all_goals (refine ⟨ret_int ?_, rfl⟩)
  all_goals (clear hr; unfold base; repeat (first | rw [if_pos (by omega)] | rw [if_neg (by omega)] | rfl))
set_option maxRecDepth 100000 in
set_option maxHeartbeats 4000000 in
theorem class_Word (s : ByteArray) (w : World) :
    Calls Tryz.prog 79 #[.string s] w fun e w' => e = .returned (.bool (word s)) ∧ w = w' := by
  go_enter Tryz.func79, Tryz.ntmps79
  go_wp2_with fail
  all_goals go_ret
  all_goals (refine ⟨ret_bool ?_, rfl⟩)
  all_goals first | (unfold word words; simp only [List.any_cons, List.any_nil, *, Bool.true_or, Bool.or_true, Bool.or_false]; done) | (exfalso; simp_all; done)
end Go.Proofs.YtelfobnmiphdnaaGreatDoor
