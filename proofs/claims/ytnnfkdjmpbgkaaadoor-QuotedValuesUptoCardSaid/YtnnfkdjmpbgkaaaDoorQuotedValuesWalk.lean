/- The statement QuotedValues, walked: the call returns true. -/
import Derived.Test.YtnnfkdjmpbgkaaaDoorLaw06
namespace Go.Proofs.YtnnfkdjmpbgkaaaDoor
set_option linter.all false
open Go.RowKit
attribute [local irreducible] wpStill
set_option maxRecDepth 100000 in
set_option maxHeartbeats 4000000 in
theorem QuotedValues_walk (s : ByteArray) (hs : s.size ≤ 1048576) (w : World) (hT : Tabs w) (hM : MaxC w) :
    Calls Tryd.prog 4 #[.string s] w fun e w' => e = .returned (.bool true) ∧ Below w.heap.size w w' := by
  have HQ : RowKit.Hid (∀ w', Below w.heap.size w w' → (fun (e : Ending) w' => e = .returned (.bool true) ∧ Below w.heap.size w w') (.returned (.bool true)) w') := Lib.hid fun w' h => ⟨rfl, h⟩
  generalize (fun (e : Ending) w' => e = .returned (.bool true) ∧ Below w.heap.size w w') = Q at *
  have C1 := Lib.hid (quoted_Value s w hT hM (by omega))
  have C2 := Lib.hid (fun w => ref_Value06 s (by omega) w)
  have C3 := Lib.hid (fun w' (hb : Below w.heap.size w w') => law06_fixed w' (hT.below hb) (hM.below hb))
  go_enter Tryd.func4, Tryd.ntmps4
  go_wp2_with fail
  refine C1.out.mono ?_
  intro e w1 h1
  unfold valuePost at h1
  obtain ⟨rfl, hb1⟩ := h1
  have HB1 := Lib.hid hb1
  clear hb1
  go_wp2_with fail
  refine (C2.out _).mono ?_
  intro e w2 h2
  unfold valuePost at h2
  obtain ⟨rfl, hb2⟩ := h2
  have HB2 := Lib.hid (bthen HB1.out hb2)
  clear hb2
  generalize value s = q at *
  obtain ⟨v, err⟩ := q
  go_wp2_with fail
  refine (C3.out _ HB2.out).mono ?_
  rintro e w3 ⟨rfl, hb3⟩
  have HB3 := Lib.hid (bthen HB2.out hb3)
  clear hb3
  go_wp2_with fail
  show Q (.returned (.bool _)) _
  exact HQ.out _ HB3.out
end Go.Proofs.YtnnfkdjmpbgkaaaDoor
