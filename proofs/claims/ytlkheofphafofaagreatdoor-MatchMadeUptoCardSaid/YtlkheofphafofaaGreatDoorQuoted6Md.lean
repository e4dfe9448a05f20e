/- Layer 6: the program's Scan, Value and Quote, walked. -/
import Derived.Test.YtlkheofphafofaaGreatDoorQuoted5Md
import Derived.Laws.OwnMore
import Derived.Test.YtlkheofphafofaaGreatDoorQuotedPMd
namespace Go.Proofs.YtlkheofphafofaaGreatDoor
set_option linter.all false
open Go.RowKit
attribute [local irreducible] wpStill

@[irreducible] def valuePost (s : ByteArray) (w0 : World) (e : Ending) (w' : World) : Prop :=
 e = .returned (.tuple #[.string (value s).1, .int .i64 (value s).2]) ∧ Below w0.heap.size w0 w'
set_option maxRecDepth 100000 in
set_option maxHeartbeats 4000000 in
theorem quoted_Value (s : ByteArray) (w0 : World) (hT : Tabs w0) (hM : MaxC w0) (hs : s.size ≤ 2147483647) :
  Calls Tryz.prog 92 #[.string s] w0 (valuePost s w0) := by
 have CB := Lib.hid (quoted_begun s 0 w0 hT hM hs)
 have HQ : RowKit.Hid (∀ w' v err, Below w0.heap.size w0 w' → value s = (v, err) → valuePost s w0 (.returned (.tuple #[.string v, .int .i64 err])) w') :=
  Lib.hid fun w' v err h1 h2 => by unfold valuePost; rw [h2]; exact ⟨rfl, h1⟩
 generalize valuePost s w0 = Q at *
 have hV : value s = if (begun s 0).2.2.2 = 0 ∧ (begun s 0).2.1 = s.size then ((begun s 0).2.2.1, 0) else (ByteArray.empty, 4) := by unfold value; rfl
 have HV := Lib.hid hV
 clear hV
 go_enter Tryz.func92, Tryz.ntmps92
 go_wp2_with fail
 refine CB.out.mono ?_
 intro e w1 h1
 unfold begunPost at h1
 obtain ⟨rfl, hb⟩ := h1
 unfold begunVals
 generalize begun s 0 = q at *
 obtain ⟨k, t, v, err⟩ := q
 have HB := Lib.hid hb
 clear hb
 by_cases h1 : err = 0
 ·by_cases h2 : t = s.size
  ·go_wp2_with fail
   exact HQ.out _ _ _ HB.out (by rw [HV.out, if_pos ⟨h1, h2⟩])
  ·go_wp2_with fail
   exact HQ.out _ _ _ HB.out (by rw [HV.out, if_neg (fun h => h2 h.2)]; rfl)
 ·go_wp2_with fail
  exact HQ.out _ _ _ HB.out (by rw [HV.out, if_neg (fun h => h1 h.1)]; rfl)
end Go.Proofs.YtlkheofphafofaaGreatDoor
namespace Go.Proofs.YtlkheofphafofaaGreatDoor
set_option linter.all false

theorem begun_body {s : ByteArray} {i : Nat} (hi : i < s.size) (hm : bt s i = 34) : begun s i = match body s (i + 1) with
  | none => (0, 0, ByteArray.empty, 4)
  | some (e, l) => (7, e, strOfNums l, 0) := by
 rw [begun_read hi (Or.inl hm), hm]
 unfold loopZ
 simp only [if_true]
 all_goals (cases body s (i + 1) <;> rfl)
theorem body_end {s : ByteArray} {i : Nat} (h : ¬ i < s.size) : body s i = none := by unfold body; rw [dif_neg h]
theorem body_mark {s : ByteArray} {i : Nat} (h : i < s.size) (hc : bt s i = 34) : body s i = some (i + 1, []) := by unfold body; rw [dif_pos h, if_pos hc]
theorem body_item {s : ByteArray} {i : Nat} (h : i < s.size) (hc : bt s i ≠ 34) : body s i = (item s i 34).bind fun q => (body s (i + q.1)).map fun p => (p.1, q.2 ++ p.2) := by
 have := loopZ_item (mark := 34) (k := 0) (Or.inl rfl) h hc
 unfold loopZ at this
 simpa using this
theorem raw_end {s : ByteArray} {i : Nat} (h : ¬ i < s.size) : raw s i = none := by unfold raw; rw [if_neg h]
theorem raw_mark {s : ByteArray} {i : Nat} (h : i < s.size) (hc : bt s i = 96) : raw s i = some (i + 1, []) := by unfold raw; rw [if_pos h, if_pos hc]
theorem raw_next {s : ByteArray} {i : Nat} (h : i < s.size) (hc : bt s i ≠ 96) : raw s i = (raw s (i + 1)).map fun p => (p.1, (if bt s i = 13 then [] else [(bt s i : Int)]) ++ p.2) := by rw [raw, if_pos h, if_neg hc]
theorem begun_single {s : ByteArray} {i : Nat} (hi : i < s.size) (hm : bt s i = 39) : begun s i = match single s (i + 1) with
  | none => (0, 0, ByteArray.empty, 4)
  | some (e, l) => (6, e, strOfNums l, 0) := by
 rw [begun_read hi (Or.inr hm), hm]
 unfold loopZ
 rw [if_neg (by decide), if_pos rfl]
 all_goals (cases single s (i + 1) <;> rfl)
theorem single_end {s : ByteArray} {i : Nat} (h : ¬ i < s.size) : single s i = none := by unfold single; rw [if_neg h]
theorem single_mark {s : ByteArray} {i : Nat} (h : i < s.size) (hc : bt s i = 39) : single s i = none := by unfold single; rw [if_pos h, if_pos hc]
theorem single_none {s : ByteArray} {i : Nat} (h : i < s.size) (hc : bt s i ≠ 39) (hit : item s i 39 = none) : single s i = none := by unfold single; rw [if_pos h, if_neg hc, hit]
theorem single_some {s : ByteArray} {i n : Nat} {l : List Int} (h : i < s.size) (hc : bt s i ≠ 39) (hit : item s i 39 = some (n, l)) : single s i = if i + n < s.size ∧ bt s (i + n) = 39 then some (i + n + 1, l) else none := by unfold single; rw [if_pos h, if_neg hc, hit]
end Go.Proofs.YtlkheofphafofaaGreatDoor
namespace Go.Proofs.YtlkheofphafofaaGreatDoor
set_option linter.all false

end Go.Proofs.YtlkheofphafofaaGreatDoor
