/- Layer 6: the program's Scan, Value and Quote, walked. -/
import Derived.Test.YtelfobnmiphdnaaGreatDoorQuoted5
import Derived.Laws.OwnMore
namespace Go.Proofs.YtelfobnmiphdnaaGreatDoor
set_option linter.all false
open Go.RowKit
attribute [local irreducible] wpStill

@[irreducible] def scanPost (s : ByteArray) (at' : Int) (w0 : World) (e : Ending) (w' : World) : Prop :=
  e = .returned (.tuple #[.int .u8 (begun s at').1, .int .i64 (begun s at').2.1, .int .i64 (begun s at').2.2.2]) ∧ Below w0.heap.size w0 w'
set_option maxRecDepth 100000 in
set_option maxHeartbeats 4000000 in
theorem quoted_Scan (s : ByteArray) (at' : Int) (w0 : World) (hT : Tabs w0) (hM : MaxC w0) (hs : s.size ≤ 2147483647) :
    Calls Tryz.prog 57 #[.string s, .int .i64 at'] w0 (scanPost s at' w0) := by
  have CB := Lib.hid (quoted_begun s at' w0 hT hM hs)
  have HQ : RowKit.Hid (∀ w', Below w0.heap.size w0 w' → scanPost s at' w0 (.returned (.tuple #[.int .u8 (begun s at').1, .int .i64 (begun s at').2.1, .int .i64 (begun s at').2.2.2])) w') :=
    Lib.hid fun w' h1 => by unfold scanPost; exact ⟨rfl, h1⟩
  generalize scanPost s at' w0 = Q at *
  go_enter Tryz.func57, Tryz.ntmps57
  go_wp2_with fail
  refine CB.out.mono ?_
  intro e w1 h1
  unfold begunPost at h1
  obtain ⟨rfl, hb⟩ := h1
  unfold begunVals
  generalize begun s at' = q at *
  go_wp2_with fail
  exact HQ.out _ hb
end Go.Proofs.YtelfobnmiphdnaaGreatDoor
