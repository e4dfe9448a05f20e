/- Layer 6: the program's Scan, Value and Quote, walked. -/
import Derived.Test.YtnnfkdjmpbgkaaaDoorQuoted5
import Derived.Laws.OwnMore
namespace Go.Proofs.YtnnfkdjmpbgkaaaDoor
set_option linter.all false
open Go.RowKit
attribute [local irreducible] wpStill

@[irreducible] def scanPost (s : ByteArray) (at' : Int) (w0 : World) (e : Ending) (w' : World) : Prop :=
  e = .returned (.tuple #[.int .u8 (begun s at').1, .int .i64 (begun s at').2.1, .int .i64 (begun s at').2.2.2]) ∧ Below w0.heap.size w0 w'
set_option maxRecDepth 100000 in
set_option maxHeartbeats 4000000 in
theorem quoted_Scan (s : ByteArray) (at' : Int) (w0 : World) (hT : Tabs w0) (hM : MaxC w0) (hs : s.size ≤ 2147483647) :
    Calls Tryd.prog 10 #[.string s, .int .i64 at'] w0 (scanPost s at' w0) := by
  have CB := Lib.hid (quoted_begun s at' w0 hT hM hs)
  have HQ : RowKit.Hid (∀ w', Below w0.heap.size w0 w' → scanPost s at' w0 (.returned (.tuple #[.int .u8 (begun s at').1, .int .i64 (begun s at').2.1, .int .i64 (begun s at').2.2.2])) w') :=
    Lib.hid fun w' h1 => by unfold scanPost; exact ⟨rfl, h1⟩
  generalize scanPost s at' w0 = Q at *
  go_enter Tryd.func10, Tryd.ntmps10
  go_wp2_with fail
  refine CB.out.mono ?_
  intro e w1 h1
  unfold begunPost at h1
  obtain ⟨rfl, hb⟩ := h1
  unfold begunVals
  generalize begun s at' = q at *
  go_wp2_with fail
  exact HQ.out _ hb
@[irreducible] def valuePost (s : ByteArray) (w0 : World) (e : Ending) (w' : World) : Prop :=
  e = .returned (.tuple #[.string (value s).1, .int .i64 (value s).2]) ∧ Below w0.heap.size w0 w'
set_option maxRecDepth 100000 in
set_option maxHeartbeats 4000000 in
theorem quoted_Value (s : ByteArray) (w0 : World) (hT : Tabs w0) (hM : MaxC w0) (hs : s.size ≤ 2147483647) :
    Calls Tryd.prog 13 #[.string s] w0 (valuePost s w0) := by
  have CB := Lib.hid (quoted_begun s 0 w0 hT hM hs)
  have HQ : RowKit.Hid (∀ w' v err, Below w0.heap.size w0 w' → value s = (v, err) → valuePost s w0 (.returned (.tuple #[.string v, .int .i64 err])) w') :=
    Lib.hid fun w' v err h1 h2 => by unfold valuePost; rw [h2]; exact ⟨rfl, h1⟩
  generalize valuePost s w0 = Q at *
  have hV : value s = if (begun s 0).2.2.2 = 0 ∧ (begun s 0).2.1 = s.size then ((begun s 0).2.2.1, 0) else (ByteArray.empty, 4) := by unfold value; rfl
  have HV := Lib.hid hV
  clear hV
  go_enter Tryd.func13, Tryd.ntmps13
  go_wp2_with fail
  refine CB.out.mono ?_
  intro e w1 h1
  unfold begunPost at h1
  obtain ⟨rfl, hb⟩ := h1
  unfold begunVals
  generalize begun s 0 = q at *
  obtain ⟨k, t, v, err⟩ := q
  have HB := Lib.hid hb
  clear hb
  by_cases h1 : err = 0
  · by_cases h2 : t = s.size
    · go_wp2_with fail
      exact HQ.out _ _ _ HB.out (by rw [HV.out, if_pos ⟨h1, h2⟩])
    · go_wp2_with fail
      exact HQ.out _ _ _ HB.out (by rw [HV.out, if_neg (fun h => h2 h.2)]; rfl)
  · go_wp2_with fail
    exact HQ.out _ _ _ HB.out (by rw [HV.out, if_neg (fun h => h1 h.1)]; rfl)
end Go.Proofs.YtnnfkdjmpbgkaaaDoor
