/- The statement SemiEnds, walked: the call returns true. -/
import Derived.Test.YtcnkcnalabjhgaaDoorLaw08
import Derived.Test.YtcnkcnalabjhgaaDoorRef08a
namespace Go.Proofs.YtcnkcnalabjhgaaDoor
set_option linter.all false
open Go.RowKit
set_option maxRecDepth 100000 in
set_option maxHeartbeats 4000000 in
theorem SemiEnds_walk (k : Int) (hk : (Lit.int .u8 k).wf = true) (t : ByteArray) (_ : t.size ≤ maxLen) (w : World) (_ : True) (hT : Tabs w) (hM : MaxC w) :
    Calls Tryd.prog 7 #[.int .u8 k, .string t] w fun e w' => e = .returned (.bool true) ∧ Below w.heap.size w w' := by
  have hk2 : 0 ≤ k ∧ k < 256 := by
    have := Go.bounds_u8 hk
    omega
  have HQ : RowKit.Hid (∀ w', Below w.heap.size w w' → (fun (e : Ending) w' => e = .returned (.bool true) ∧ Below w.heap.size w w') (.returned (.bool true)) w') := Lib.hid fun w' h => ⟨rfl, h⟩
  generalize (fun (e : Ending) w' => e = .returned (.bool true) ∧ Below w.heap.size w w') = Q at *
  have C1 := Lib.hid (law08_fixed w hT hM)
  have C2 := Lib.hid (fun w => semi_Ends k hk2 t w)
  have C3 := Lib.hid (fun w => ref_Ends08 k hk2 t w)
  clear hk hk2
  go_enter Tryd.func7, Tryd.ntmps7
  go_wp2_with fail
  refine C1.out.mono ?_
  rintro e w1 ⟨rfl, hb1⟩
  have HB1 := Lib.hid hb1
  clear hb1
  go_wp2_with fail
  refine (C2.out _).mono ?_
  rintro e w2 ⟨rfl, rfl⟩
  go_wp2_with fail
  refine (C3.out _).mono ?_
  rintro e w3 ⟨rfl, hb3⟩
  have HB3 := Lib.hid (bthen HB1.out hb3)
  clear hb3
  generalize endsK k t = b at *
  go_wp2_with fail
  show Q (.returned (.bool _)) _
  exact HQ.out _ HB3.out
end Go.Proofs.YtcnkcnalabjhgaaDoor
