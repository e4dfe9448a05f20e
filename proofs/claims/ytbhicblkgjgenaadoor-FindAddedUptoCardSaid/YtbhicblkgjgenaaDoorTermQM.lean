/- Layer 11 in plain Lean: ends, parts above and kids of a list that is well. -/
import Derived.Test.YtbhicblkgjgenaaDoorCoreM
import Derived.Test.YtbhicblkgjgenaaDoorQuoted5M
import Derived.Laws.OwnMore
namespace Go.Proofs.YtbhicblkgjgenaaDoor
set_option linter.all false

theorem rows_at {l : List Prt} {us : List Nat} (h : rowsB l = some us) {i : Nat} (hi : i < l.length) : ∃ t ts, rowsB (l.drop i) = some (t :: ts) ∧ 0 < t ∧ endB l i = i + t ∧ i + t ≤ l.length := by
  obtain ⟨vs, hv⟩ := rowsB_drop h i
  have hs := rowsB_sum hv
  rw [List.length_drop] at hs
  match vs with
  | [] => simp at hs; omega
  | t :: ts =>
    have hp := hs.2.2 t (by simp)
    have h1 := hs.1
    rw [List.sum_cons] at h1
    exact ⟨t, ts, hv, hp, by unfold endB; rw [headSize_of hv], by omega⟩
theorem endR_end {l : List Prt} {us : List Nat} (h : rowsB l = some us) {i : Nat} (hi : i < l.length) : endR l.length (l.drop i) 1 i = some (endB l i) := by
  obtain ⟨t, ts, h1, h2, h3, h4⟩ := rows_at h hi
  rw [endR_rows l.length h1 (by rw [List.length_drop]; omega), if_pos (by simp), h3]
  simp
theorem endB_gt {l : List Prt} {us : List Nat} (h : rowsB l = some us) {i : Nat} (hi : i < l.length) : i < endB l i ∧ endB l i ≤ l.length := by
  obtain ⟨t, ts, h1, h2, h3, h4⟩ := rows_at h hi
  omega
theorem well_rows {l : List Prt} (h : wellB l = true) : rowsB l = some [l.length] := wellB_iff.1 h
theorem well_zero {l : List Prt} (h : wellB l = true) : 0 < l.length ∧ endB l 0 = l.length := by
  have h1 := well_rows h
  have := (rowsB_sum h1).2.2 l.length (by simp)
  refine ⟨this, ?_⟩
  unfold endB
  rw [List.drop_zero, headSize_of h1]; omega
/-- The last part ahead of a place that reaches beyond i. -/
def upI (l : List Prt) (i : Nat) : Nat → Int
  | 0 => -1
  | k + 1 => if i < endB l k then (k : Int) else upI l i k
theorem up_pos {l : List Prt} (hw : wellB l = true) {i : Nat} (hi : i < l.length) : ∀ k, 0 < k → 0 ≤ upI l i k
  | 1, _ => by
    rw [upI, if_pos (by rw [(well_zero hw).2]; exact hi)]; omega
  | k + 2, _ => by
    rw [upI]
    split
    · omega
    · exact up_pos hw hi (k + 1) (by omega)

/-- The kids of a part. -/
def kidsB (l : List Prt) (i : Nat) : List Nat := match rowsB (l.drop (i + 1)), l[i]? with
  | some ts, some p => (starts (i + 1) ts).take p.2.1.toNat
  | _, _ => []
def kidsOf (l : List Prt) (i : Int) : List Int := if wellB l = true ∧ 0 ≤ i ∧ i < l.length then (kidsB l i.toNat).map fun (x : Nat) => (x : Int) else []
theorem kids_facts {l : List Prt} {us : List Nat} (h : rowsB l = some us) {i : Nat} (hi : i < l.length) :
    ∃ ts q, rowsB (l.drop (i + 1)) = some ts ∧ (l[i]).2.1 = ((q : Nat) : Int) ∧ q ≤ ts.length ∧ endB l i = i + 1 + (ts.take q).sum ∧ kidsB l i = (starts (i + 1) ts).take q := by
  obtain ⟨vs, hv⟩ := rowsB_drop h i
  rw [List.drop_eq_getElem_cons hi] at hv
  obtain ⟨ts, h1, h2, h3, h4⟩ := rowsB_inv hv
  refine ⟨ts, (l[i]).2.1.toNat, h1, by omega, by omega, ?_, ?_⟩
  · unfold endB
    rw [List.drop_eq_getElem_cons hi]
    subst h4
    rw [headSize_of hv]; omega
  · unfold kidsB
    rw [h1, List.getElem?_eq_getElem hi]
/-- One kid more. -/
theorem kid_step {l : List Prt} {us : List Nat} (h : rowsB l = some us) {i : Nat} {ts : List Nat} {q n : Nat} (hts : rowsB (l.drop (i + 1)) = some ts) (hq : q ≤ ts.length) (hn : n < q) :
    i + 1 + (ts.take n).sum < l.length ∧ endB l (i + 1 + (ts.take n).sum) = i + 1 + (ts.take (n + 1)).sum ∧ (starts (i + 1) ts).take (n + 1) = (starts (i + 1) ts).take n ++ [i + 1 + (ts.take n).sum] ∧ (ts.take n).sum < (ts.take q).sum ∧ (ts.take n).sum < (ts.take (n + 1)).sum ∧ (ts.take (n + 1)).sum ≤ (ts.take q).sum := by
  have hk := rowsB_skip n hts (by omega)
  rw [List.drop_drop] at hk
  have hd : ts.drop n = ts[n] :: ts.drop (n + 1) := List.drop_eq_getElem_cons (by omega)
  have hsum : (ts.take (n + 1)).sum = (ts.take n).sum + ts[n] := by rw [List.take_succ_eq_append_getElem (by omega), List.sum_append]; simp
  have hpos := (rowsB_sum hts).2.2 ts[n] (List.getElem_mem (by omega))
  have hh := headSize_of (hk.trans (congrArg some hd))
  have h1 := (rowsB_sum hk).1
  rw [hd, List.sum_cons, List.length_drop] at h1
  refine ⟨by omega, by unfold endB; rw [hh, hsum]; omega, ?_, ?_⟩
  · have hz := starts_length ts (i + 1)
    rw [List.take_succ_eq_append_getElem (by omega)]
    have := starts_get ts (i + 1) n (by omega)
    rw [List.getD_eq_getElem?_getD, List.getElem?_eq_getElem (by omega)] at this
    simp only [Option.getD_some] at this
    rw [this]
  refine ⟨?_, by omega, ?_⟩
  · have := sum_take_add ts (n + 1) (q - (n + 1))
    rw [show n + 1 + (q - (n + 1)) = q by omega] at this
    omega
  · have := sum_take_add ts (n + 1) (q - (n + 1))
    rw [show n + 1 + (q - (n + 1)) = q by omega] at this
    omega
end Go.Proofs.YtbhicblkgjgenaaDoor
namespace Go.Proofs.YtbhicblkgjgenaaDoor
set_option linter.all false
open Go.RowKit
attribute [local irreducible] wpStill

@[irreducible] def scanPost (s : ByteArray) (at' : Int) (w0 : World) (e : Ending) (w' : World) : Prop :=
  e = .returned (.tuple #[.int .u8 (begun s at').1, .int .i64 (begun s at').2.1, .int .i64 (begun s at').2.2.2]) ∧ Below w0.heap.size w0 w'
@[irreducible] def valuePost (s : ByteArray) (w0 : World) (e : Ending) (w' : World) : Prop :=
  e = .returned (.tuple #[.string (value s).1, .int .i64 (value s).2]) ∧ Below w0.heap.size w0 w'
set_option maxRecDepth 100000 in
set_option maxHeartbeats 4000000 in
theorem quoted_Value (s : ByteArray) (w0 : World) (hT : Tabs w0) (hM : MaxC w0) (hs : s.size ≤ 2147483647) :
    Calls Tryd.prog 58 #[.string s] w0 (valuePost s w0) := by
  have CB := Lib.hid (quoted_begun s 0 w0 hT hM hs)
  have HQ : RowKit.Hid (∀ w' v err, Below w0.heap.size w0 w' → value s = (v, err) → valuePost s w0 (.returned (.tuple #[.string v, .int .i64 err])) w') :=
    Lib.hid fun w' v err h1 h2 => by unfold valuePost; rw [h2]; exact ⟨rfl, h1⟩
  generalize valuePost s w0 = Q at *
  have hV : value s = if (begun s 0).2.2.2 = 0 ∧ (begun s 0).2.1 = s.size then ((begun s 0).2.2.1, 0) else (ByteArray.empty, 4) := by unfold value; rfl
  have HV := Lib.hid hV
  clear hV
  go_enter Tryd.func58, Tryd.ntmps58
  go_wp2_with fail
  refine CB.out.mono ?_
  intro e w1 h1
  unfold begunPost at h1
  obtain ⟨rfl, hb⟩ := h1
  unfold begunVals
  generalize begun s 0 = q at *
  obtain ⟨k, t, v, err⟩ := q
  have HB := Lib.hid hb
  clear hb
  by_cases h1 : err = 0
  · by_cases h2 : t = s.size
    · go_wp2_with fail
      exact HQ.out _ _ _ HB.out (by rw [HV.out, if_pos ⟨h1, h2⟩])
    · go_wp2_with fail
      exact HQ.out _ _ _ HB.out (by rw [HV.out, if_neg (fun h => h2 h.2)]; rfl)
  · go_wp2_with fail
    exact HQ.out _ _ _ HB.out (by rw [HV.out, if_neg (fun h => h1 h.1)]; rfl)
end Go.Proofs.YtbhicblkgjgenaaDoor
