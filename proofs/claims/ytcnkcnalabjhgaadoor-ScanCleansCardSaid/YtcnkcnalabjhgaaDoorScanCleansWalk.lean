/- The statement ScanCleans, walked: the call returns true. -/
import Derived.Test.YtcnkcnalabjhgaaDoorLaw07
import Derived.Test.YtcnkcnalabjhgaaDoorRef07a
namespace Go.Proofs.YtcnkcnalabjhgaaDoor
set_option linter.all false
open Go.RowKit
set_option maxRecDepth 100000 in
set_option maxHeartbeats 4000000 in
theorem ScanCleans_walk (s : ByteArray) (hs : s.size ≤ maxLen) (w : World) (_ : True) (hT : Tabs w) (hM : MaxC w) :
    Calls Tryd.prog 3 #[.string s] w fun e w' => e = .returned (.bool true) ∧ Below w.heap.size w w' := by
  unfold maxLen at hs
  have HQ : RowKit.Hid (∀ w', Below w.heap.size w w' → (fun (e : Ending) w' => e = .returned (.bool true) ∧ Below w.heap.size w w') (.returned (.bool true)) w') := Lib.hid fun w' h => ⟨rfl, h⟩
  generalize (fun (e : Ending) w' => e = .returned (.bool true) ∧ Below w.heap.size w w') = Q at *
  have C1 := Lib.hid (law07_fixed w hT hM)
  have C2 := Lib.hid (fun w' (hb : Below w.heap.size w w') => scan_Clean s w' (hT.below hb))
  have C3 := Lib.hid (fun w => ref_Clean07 s hs w)
  clear hs
  go_enter Tryd.func3, Tryd.ntmps3
  go_wp2_with fail
  refine C1.out.mono ?_
  rintro e w1 ⟨rfl, hb1⟩
  have HB1 := Lib.hid hb1
  clear hb1
  go_wp2_with fail
  refine (C2.out _ HB1.out).mono ?_
  rintro e w2 ⟨rfl, hb2⟩
  have HB2 := Lib.hid (bthen HB1.out hb2)
  clear hb2
  go_wp2_with fail
  refine (C3.out _).mono ?_
  rintro e w3 ⟨rfl, hb3⟩
  have HB3 := Lib.hid (bthen HB2.out hb3)
  clear hb3
  go_wp2_with fail
  show Q (.returned (.bool _)) _
  exact HQ.out _ HB3.out
end Go.Proofs.YtcnkcnalabjhgaaDoor
