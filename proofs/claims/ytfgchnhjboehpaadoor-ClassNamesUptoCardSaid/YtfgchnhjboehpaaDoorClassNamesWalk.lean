/- The statement ClassNames, walked: the call returns true. -/
import Derived.Test.YtfgchnhjboehpaaDoorLaw02
import Derived.Test.YtfgchnhjboehpaaDoorRef02b
namespace Go.Proofs.YtfgchnhjboehpaaDoor
open Go.RowKit
set_option maxRecDepth 100000 in
set_option maxHeartbeats 1000000 in
theorem ClassNames_walk (s : ByteArray) (hs : s.size ≤ 1048576) (w : World) (hT : Tabs w) :
    Calls Tryd.prog 10 #[.string s] w fun e w' => e = .returned (.bool true) ∧ Below w.heap.size w w' := by
  have C1 := Lib.hid (fun w hT => class_Name s w hT)
  have C2 := Lib.hid (fun w => ref_Name s w (by omega))
  have C3 := Lib.hid (fun w => class_Word s w)
  have C4 := Lib.hid (fun w => ref_Word s w)
  generalize name s = x at *
  generalize word s = y at *
  go_enter Tryd.func10, Tryd.ntmps10
  go_wp2_with fail
  refine (law02_fixed _ hT).mono ?_; rintro e w1 ⟨rfl, hb1⟩
  go_wp2_with fail
  refine (C1.out _ (hT.below hb1)).mono ?_; rintro e w2 ⟨rfl, hb2⟩
  have hb12 := bthen hb1 hb2
  go_wp2_with fail
  refine (C2.out _).mono ?_; rintro e w3 ⟨rfl, hb3⟩
  have hb13 := bthen hb12 hb3
  go_wp2_with fail
  refine (C3.out _).mono ?_; rintro e w4 ⟨rfl, rfl⟩
  go_wp2_with fail
  refine (C4.out _).mono ?_; rintro e w4 ⟨rfl, hb4⟩
  have hb14 := bthen hb13 hb4
  go_wp2_with fail
  go_ret
  exact ⟨rfl, hb14⟩
end Go.Proofs.YtfgchnhjboehpaaDoor
