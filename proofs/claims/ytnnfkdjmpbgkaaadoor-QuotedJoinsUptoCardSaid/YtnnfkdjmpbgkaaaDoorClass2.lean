/- The program's further functions of layer 2, walked. -/
import Derived.Test.YtnnfkdjmpbgkaaaDoorClass
namespace Go.Proofs.YtnnfkdjmpbgkaaaDoor
open Go.RowKit

theorem class_Base (r : Int) (hr : -2147483648 ≤ r ∧ r ≤ 2147483647) (w : World) :
    Calls Tryd.prog 51 #[.int .i32 r] w fun e w' => e = .returned (.int .i64 (base r)) ∧ w = w' := by
  go_enter Tryd.func51, Tryd.ntmps51
  go_wp2_with fail
  all_goals go_ret
  all_goals (refine ⟨ret_int ?_, rfl⟩)
  all_goals (clear hr; unfold base; repeat (first | rw [if_pos (by omega)] | rw [if_neg (by omega)] | rfl))
end Go.Proofs.YtnnfkdjmpbgkaaaDoor
