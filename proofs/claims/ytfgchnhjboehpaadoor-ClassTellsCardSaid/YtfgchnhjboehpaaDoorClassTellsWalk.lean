/- The statement ClassTells, walked: the call returns true. -/
import Derived.Test.YtfgchnhjboehpaaDoorLaw02
import Derived.Test.YtfgchnhjboehpaaDoorRef02
namespace Go.Proofs.YtfgchnhjboehpaaDoor
open Go.RowKit
set_option maxRecDepth 100000 in
set_option maxHeartbeats 1000000 in
theorem ClassTells_walk (r : Int) (hr : (Lit.int .i32 r).wf = true) (w : World) (_ : True) (hT : Tabs w) :
    Calls Tryd.prog 13 #[.int .i32 r] w fun e w' => e = .returned (.bool true) ∧ Below w.heap.size w w' := by
  have hb := bounds_i32 hr
  have hw : IntKind.i64.wrap r = r := IntWalk.i64_in _ (by omega)
  have C1 := Lib.hid (fun w => class_Letter r w)
  have C2 := Lib.hid (fun w => ref_Letter r w)
  have C3 := Lib.hid (fun w => class_Digit r (by omega) w)
  have C4 := Lib.hid (fun w => ref_Digit r w)
  have C5 := Lib.hid (fun w => class_Blank r w)
  have C6 := Lib.hid (fun w => ref_Blank r w)
  have C7 := Lib.hid (fun w => class_Base r (by omega) w)
  have C8 := Lib.hid (fun w => ref_Base r w)
  generalize letter r = x1 at *
  generalize digit r = x2 at *
  generalize blank r = x3 at *
  generalize base r = x4 at *
  clear hr
  go_enter Tryd.func13, Tryd.ntmps13
  go_wp2_with fail
  refine (law02_fixed _ hT).mono ?_; rintro e w1 ⟨rfl, hb1⟩
  go_wp2_with fail
  refine (C1.out _).mono ?_; rintro e w2 ⟨rfl, hb2⟩
  have hb12 := bthen hb1 hb2
  go_wp2_with fail
  refine (C2.out _).mono ?_; rintro e w3 ⟨rfl, hb3⟩
  have hb13 := bthen hb12 hb3
  go_wp2_with fail
  refine (C3.out _).mono ?_; rintro e w4 ⟨rfl, rfl⟩
  go_wp2_with fail
  refine (C4.out _).mono ?_; rintro e w4 ⟨rfl, hb4⟩
  have hb14 := bthen hb13 hb4
  go_wp2_with fail
  refine (C5.out _).mono ?_; rintro e w5 ⟨rfl, rfl⟩
  go_wp2_with fail
  refine (C6.out _).mono ?_; rintro e w5 ⟨rfl, rfl⟩
  go_wp2_with fail
  refine (C7.out _).mono ?_; rintro e w5 ⟨rfl, rfl⟩
  go_wp2_with fail
  refine (C8.out _).mono ?_; rintro e w5 ⟨rfl, rfl⟩
  go_wp2_with fail
  go_ret
  exact ⟨rfl, hb14⟩
end Go.Proofs.YtfgchnhjboehpaaDoor
