/- The statement FillFresh, walked: the call returns true. -/
import Derived.Test.YtmklemelgdilkaaDoorFix20Mf
import Derived.Test.YtmklemelgdilkaaDoorWayPMf
import Derived.Test.YtmklemelgdilkaaDoorKpMMf
import Derived.Test.YtmklemelgdilkaaDoorStillMf
import Derived.Deep.RegionHeld3
namespace Go.Proofs.YtmklemelgdilkaaDoor
set_option linter.all false
attribute [local irreducible] Calls
attribute [local irreducible] wpStill
open Go.RowKit

def askR (l : List Prt) : List Prt := l ++ [(26, 0, ⟨#[63]⟩)]
theorem giv1 (w : World) (v : Value) (l : List Prt) (hr : PartRow w v l) (hl : l.length ≤ 1048576) :
  ∃ wa v1 w1, (Instr.makeSlice 23 (.int .i64 0) (.int .i64 ((l.length : Int) + 1))).run Tryd.prog w = .ok (.slice (some ⟨w.heap.size, 0, none⟩) 0 (l.length + 1)) wa ∧
  (Builtin.append_ #[23, 23] 23 #[.slice (some ⟨w.heap.size, 0, none⟩) 0 (l.length + 1), v]).run Tryd.prog wa = .ok v1 w1 ∧
  w1.ownsRow w.heap.size 38 3 v1 l.length (partsV l) ∧ Below w.heap.size w w1 := by
 obtain ⟨i, hi, hz, hsz, hb⟩ := info_parts Tinfo_part
 have hmk := run_make (P := Tryd.prog) w 23 38 i _ Tryd.underlying23 hi hz .i64 .i64 0 ((l.length : Int) + 1) (by omega) (by omega) (by rw [hb]; omega) (by omega)
 rw [hsz] at hmk
 have hN : ((l.length : Int) + 1).toNat = l.length + 1 := by omega
 rw [hN] at hmk
 have ho0 : (w.alloc (.cells (zeroP (l.length + 1)) 38)).ownsRow w.heap.size 38 3 (.slice (some ⟨w.heap.size, 0, none⟩) 0 (l.length + 1)) 0 [] :=
  ⟨rfl, Or.inr ⟨w.heap.size, l.length + 1, zeroP (l.length + 1), rfl, Nat.le_refl _, heap_alloc_new _ _, by omega, by unfold maxLen; omega, by rw [zeroP_size], by simp⟩⟩
 have hb0 : Below w.heap.size w (w.alloc (.cells (zeroP (l.length + 1)) 38)) := (Below.refl _ _).alloc (Nat.le_refl _) _
 obtain ⟨v1, w1, r1, o1, g1, _⟩ := append_eq (P := Tryd.prog) _ 23 23 38 Tryd.underlying23 w.heap.size Tinfo_part rfl (by decide) _ 0 [] ho0 v l.length (partsV l) (hr.below hb0) (partsV_one l) (by omega) (by omega) hb0.size
 have hb1 := grown_keeps hb0 hb0.size ho0 g1
 rw [Nat.zero_add, List.nil_append] at o1
 exact ⟨_, v1, w1, hmk, r1, o1, hb1⟩
theorem giv2 {B : Nat} {w0 w1 : World} {v1 : Value} {l : List Prt} (o1 : w1.ownsRow B 38 3 v1 l.length (partsV l)) (hb1 : Below B w0 w1) (hB : B ≤ w0.heap.size) (hl : l.length ≤ 1048576) :
  ∃ g c w2, (Builtin.append_ #[23, 23] 23 #[v1, .slice (some ⟨w1.heap.size, 0, none⟩) 1 1]).run Tryd.prog (w1.alloc (.cells #[.int .u8 26, .int .i64 0, .string ⟨#[63]⟩] 38)) = .ok (.slice (some ⟨g, 0, none⟩) (l.length + 1) c) w2 ∧
  Below B w0 w2 ∧ w2.ownsRow B 38 3 (.slice (some ⟨g, 0, none⟩) (l.length + 1) c) (l.length + 1) (partsV (askR l)) := by
 have hs := hb1.size
 obtain ⟨v2, w2, r2, o2, g2, _⟩ := append_lit_eq (P := Tryd.prog) w1 #[.int .u8 26, .int .i64 0, .string ⟨#[63]⟩] 38 23 23 38 Tryd.underlying23 B Tinfo_part rfl (by decide) v1 l.length (partsV l) o1 1 1 rfl (Nat.le_refl _) (by intro u hu; simp at hu; rcases hu with rfl | rfl | rfl <;> rfl) (by omega) (by omega) (by omega)
 have hb2 := grown_keeps (hb1.alloc (by omega) _) (by simp; omega) (o1.alloc _) g2
 have e2 : partsV l ++ (#[Value.int .u8 26, .int .i64 0, .string ⟨#[63]⟩] : Array Value).toList = partsV (askR l) := by unfold askR; rw [partsV_append]; rfl
 rw [e2] at o2
 obtain ⟨a2, m2, c2, rfl⟩ := owns_slice o2
 obtain rfl : m2 = l.length + 1 := by
  obtain ⟨_, _, _, e, _⟩ := Row.of_owns o2
  simp only [Value.slice.injEq] at e
  exact e.2.1
 obtain ⟨g, rfl⟩ := ownsRow_some o2 (by omega)
 exact ⟨g, c2, w2, r2, hb2, o2⟩
theorem askR_row {W : World} {B g c : Nat} {l : List Prt} (h : W.ownsRow B 38 3 (.slice (some ⟨g, 0, none⟩) (l.length + 1) c) (l.length + 1) (partsV (askR l))) : PartRow W (.slice (some ⟨g, 0, none⟩) l.length c) l := by
 have := ownsRow_take h (k := l.length) (by omega)
 have e : (partsV (askR l)).take (l.length * 3) = partsV l := by unfold askR; rw [partsV_append, ← partsV_length, List.take_left]
 rw [e] at this
 exact Row.of_owns this
theorem askR_last {W : World} {B g c : Nat} {l : List Prt} (h : W.ownsRow B 38 3 (.slice (some ⟨g, 0, none⟩) (l.length + 1) c) (l.length + 1) (partsV (askR l))) :
  W.cell? ⟨g, l.length * 3, none⟩ = some (.int .u8 26) ∧ W.cell? ⟨g, l.length * 3 + 1, none⟩ = some (.int .i64 0) ∧ W.cell? ⟨g, l.length * 3 + 2, none⟩ = some (.string ⟨#[63]⟩) := by
 have key : ∀ j, j < 3 → W.cell? ⟨g, l.length * 3 + j, none⟩ = (partV (26, 0, ⟨#[63]⟩))[j]? := fun j hj => by
  rw [h.cellAt _ (by omega)]
  unfold askR
  rw [partsV_append, List.getElem?_append_right (by rw [partsV_length]; omega), partsV_length, show l.length * 3 + j - l.length * 3 = j by omega]
  rfl
 have k0 := key 0 (by omega)
 rw [Nat.add_zero] at k0
 exact ⟨k0, key 1 (by omega), key 2 (by omega)⟩
structure FrS (B0 B1 : Nat) (w6 : World) (v1 v2 : Value) (n : Nat) (W : World) : Prop where
 os : W.os = w6.os
 tape : W.tape = w6.tape
 output : W.output = w6.output
 size : w6.heap.size ≤ W.heap.size
 far : ∀ k, k < w6.heap.size → (k < B0 ∨ B1 ≤ k) → W.heap[k]? = w6.heap[k]?
 a : ∃ xs, W.ownsRow B0 38 3 v1 n xs
 x : ∃ ys, W.ownsRow B0 3 1 v2 n ys
 ab : ∀ b, v1.ownBlock = some b → b < B1
 xb : ∀ b, v2.ownBlock = some b → b < B1
 b1 : B1 ≤ w6.heap.size
section
variable {B0 B1 n : Nat} {w6 W : World} {v1 v2 : Value}
theorem FrS.below {W' : World} (h : FrS B0 B1 w6 v1 v2 n W) (hb : Below W.heap.size W W') : FrS B0 B1 w6 v1 v2 n W' := by
 obtain ⟨xs, hx⟩ := h.a
 obtain ⟨ys, hy⟩ := h.x
 exact ⟨hb.os.trans h.os, hb.tape.trans h.tape, hb.output.trans h.output, Nat.le_trans h.size hb.size, fun k h1 h2 => (hb.block k (Nat.lt_of_lt_of_le h1 h.size)).trans (h.far k h1 h2), ⟨xs, owns_below hx hb⟩, ⟨ys, owns_below hy hb⟩, h.ab, h.xb, h.b1⟩
theorem own_cell {e : TypeId} {sz : Nat} {g c : Nat} {xs : List Value} (h : W.ownsRow B0 e sz (.slice (some ⟨g, 0, none⟩) n c) n xs) {j : Nat} (hj : j < n * sz) : (∃ u, W.cell? ⟨g, j, none⟩ = some u) ∧ W.frozen? ⟨g, j, none⟩ = false := by
 have hl : xs.length = n * sz := h.1
 refine ⟨⟨xs[j]'(by omega), by rw [h.cellAt j hj]; simp [hl, hj]⟩, ?_⟩
 rcases h.2 with ⟨hv, _⟩ | ⟨g', c', cur, hv, _, hh, _⟩
 ·cases hv
 ·simp only [Value.slice.injEq, Option.some.injEq, Addr.mk.injEq, and_true] at hv
  obtain ⟨rfl, _⟩ := hv
  simp [World.frozen?, hh]
theorem FrS.setA {g c : Nat} (h : FrS B0 B1 w6 (.slice (some ⟨g, 0, none⟩) n c) v2 n W) {j : Nat} (hj : j < n * 3) (u : Value) : FrS B0 B1 w6 (.slice (some ⟨g, 0, none⟩) n c) v2 n (W.setCell ⟨g, j, none⟩ u) := by
 obtain ⟨xs, hx⟩ := h.a
 obtain ⟨ys, hy⟩ := h.x
 have hl : xs.length = n * 3 := hx.1
 have hg := (hx.lt g rfl).1
 have hg1 := h.ab g rfl
 exact ⟨h.os, h.tape, h.output, by simpa using h.size, fun k h1 h2 => by rw [heap_setCell_other _ _ _ _ (show k ≠ g by omega)]; exact h.far k h1 h2, ⟨_, owns_set hx j (by omega) u⟩, ⟨ys, ownsRow_setCell_other hy (a := ⟨g, j, none⟩) (owns_ne hx hy (by decide) rfl) u⟩, h.ab, h.xb, h.b1⟩
theorem FrS.setX {g c : Nat} (h : FrS B0 B1 w6 v1 (.slice (some ⟨g, 0, none⟩) n c) n W) {j : Nat} (hj : j < n) (u : Value) : FrS B0 B1 w6 v1 (.slice (some ⟨g, 0, none⟩) n c) n (W.setCell ⟨g, j, none⟩ u) := by
 obtain ⟨xs, hx⟩ := h.a
 obtain ⟨ys, hy⟩ := h.x
 have hl : ys.length = n * 1 := hy.1
 have hg := (hy.lt g rfl).1
 have hg1 := h.xb g rfl
 exact ⟨h.os, h.tape, h.output, by simpa using h.size, fun k h1 h2 => by rw [heap_setCell_other _ _ _ _ (show k ≠ g by omega)]; exact h.far k h1 h2, ⟨xs, ownsRow_setCell_other hx (a := ⟨g, j, none⟩) (owns_ne hy hx (by decide) rfl) u⟩, ⟨_, owns_set hy j (by omega) u⟩, h.ab, h.xb, h.b1⟩
theorem FrS.toBelow {w : World} (h : FrS B0 B1 w6 v1 v2 n W) (hb : Below w.heap.size w w6) (h0 : w.heap.size ≤ B0) : Below w.heap.size w W :=
 ⟨h.os.trans hb.os, h.tape.trans hb.tape, h.output.trans hb.output, Nat.le_trans hb.size h.size, fun k hk => (h.far k (by have := hb.size; omega) (Or.inl (by omega))).trans (hb.block k hk)⟩
theorem FrS.owns (h : FrS B0 B1 w6 v1 v2 n W) {e : TypeId} {sz m : Nat} {v : Value} {ys : List Value} (ho : w6.ownsRow B1 e sz v m ys) : W.ownsRow B1 e sz v m ys := by
 obtain ⟨h1, h2⟩ := ho
 refine ⟨h1, ?_⟩
 rcases h2 with h2 | ⟨g, cap, cur, hv, hk, hh, r⟩
 ·exact Or.inl h2
 ·exact Or.inr ⟨g, cap, cur, hv, hk, (h.far g (keeps_lt hh) (Or.inr hk)).trans hh, r⟩
end
def frA (B0 B1 n : Nat) (w6 : World) (v1 v2 : Value) (iv : Value) (wr : World) : Prop := ∃ i : Nat, iv = .int .i64 (i : Int) ∧ i ≤ n ∧ FrS B0 B1 w6 v1 v2 n wr
theorem stepPost.out {rs : List RuleM} {l : List Prt} {P : List Pk} {w0 w' : World} {e : Ending} (h : stepPost rs l P w0 e w') : Below w0.heap.size w0 w' ∧ ∃ oa oc na nc, e = .returned (.tuple #[.slice oa (stepZ rs l P).1.length oc, .slice na (stepZ rs l P).1.length nc, .int .i64 (stepZ rs l P).2]) ∧ (stepZ rs l P).1.length ≤ oc ∧ (stepZ rs l P).1.length ≤ nc ∧ w'.ownsRow w0.heap.size 38 3 (.slice oa (stepZ rs l P).1.length oc) (stepZ rs l P).1.length (partsV ((stepZ rs l P).1.map (·.1))) ∧ w'.ownsRow w0.heap.size 3 1 (.slice na (stepZ rs l P).1.length nc) (stepZ rs l P).1.length (intsV ((stepZ rs l P).1.map (·.2))) := by
 unfold stepPost at h
 obtain ⟨hb, ov, nv, rfl, ho, hn⟩ := h
 obtain ⟨oa, oc, rfl, h1⟩ := Row.shape (Row.of_owns ho)
 obtain ⟨na, nc, rfl, h2⟩ := Row.shape (Row.of_owns hn)
 exact ⟨hb, oa, oc, na, nc, rfl, h1, h2, ho, hn⟩
theorem stepZ_len {rs : List RuleM} {l : List Prt} {P : List Pk} : (stepZ rs l P).1.length ≤ 262144 := by
 unfold stepZ
 split
 ·simp
 ·rename_i h1
  split
  ·simp
  ·rename_i h2
   have hw := (findErr_zero.1 (by simpa using h1)).1
   have h3 := stepOut_len hw (show stepErr rs l P ((0 : Nat) : Int) l.length = 0 by simpa using h2)
   unfold withZ
   split
   ·have := guardZ_le ((stepOut rs l P).map (·.1)) ((stepOut rs l P).map (·.2))
    rw [List.length_map] at this
    show (guardZ _ _).length ≤ _
    omega
   ·simp
set_option maxRecDepth 100000 in
set_option maxHeartbeats 16000000 in
theorem FillFresh_walk (w : World) (vr : Value) (rs : List RuleX) (hr : RulesIn w vr rs) (hs : ∀ x ∈ rs, SmallR x.1) (hn : rs.length ≤ 1048576) (vl : Value) (l : List Prt) (hlr : PartRow w vl l) (hl : SmallL l) (vp : Value) (P : List PkX) (hp : PicksIn w vp P) (sp : P.length ≤ 1048576 ∧ ∀ x ∈ P, x.1.2.2.length ≤ 1048576) (hH : HeldM w) :
  Calls Tryd.prog 5 #[vr, vl, vp] w (AnswersM w) := by
 have HQ : RowKit.Hid (∀ w', Below w.heap.size w w' → AnswersM w (.returned (.bool true)) w') := Lib.hid fun w' h => AnswersM.mk h
 generalize AnswersM w = Q at *
 have CF := Lib.hid (fun w' (hb : Below w.heap.size w w') => law20_fixed w' (hH.T.below hb) (hH.M.below hb))
 have CG := Lib.hid (law20_great rs hs hn vr l hl.1 vl P sp.1 vp w hr hlr hp)
 have CA := Lib.hid (fun v w' (hb : Below w.heap.size w w') (hv : PartRow w' v l) => fill_Step rs hs l hl P sp vr v vp w' (hH.T.below hb) (hH.M.below hb) (hr.below hb) hv (hp.below hb))
 obtain ⟨ar, cr, rfl, hcr⟩ := hr.shape
 obtain ⟨al, cl, rfl, hcl⟩ := hlr.slice
 obtain ⟨ap, cp, rfl, hcp⟩ := hp.shape
 have HLR := Lib.hid hlr
 have hll := hl.1
 have hzl := stepZ_len (rs := rs.map (·.1)) (l := l) (P := P.map (·.1))
 obtain ⟨Z, hZ⟩ : ∃ Z, stepZ (rs.map (·.1)) l (P.map (·.1)) = Z := ⟨_, rfl⟩
 have HO : RowKit.Hid (∀ w0 e w', stepPost (rs.map (·.1)) l (P.map (·.1)) w0 e w' → Below w0.heap.size w0 w' ∧ ∃ oa oc na nc, e = .returned (.tuple #[.slice oa Z.1.length oc, .slice na Z.1.length nc, .int .i64 Z.2]) ∧ Z.1.length ≤ oc ∧ Z.1.length ≤ nc ∧ w'.ownsRow w0.heap.size 38 3 (.slice oa Z.1.length oc) Z.1.length (partsV (Z.1.map (·.1))) ∧ w'.ownsRow w0.heap.size 3 1 (.slice na Z.1.length nc) Z.1.length (intsV (Z.1.map (·.2)))) := Lib.hid fun w0 e w' h => by rw [← hZ]; exact h.out
 rw [hZ] at hzl
 clear hr hlr hp hs hl hH hZ
 obtain ⟨Zo, Ze⟩ := Z
 simp only [] at HO hzl
 go_enter Tryd.func5, Tryd.ntmps5
 go_wp2_with fail
 refine CG.out.mono ?_
 intro e w1 h1
 obtain ⟨y, rfl, hb1⟩ := h1.out
 have HB1 := Lib.hid hb1
 clear h1 hb1 CG
 cases y with
 | true =>
  go_wp2_with fail
  refine (CF.out w1 HB1.out).mono ?_
  rintro e wZ ⟨rfl, hbZ⟩
  have HX := Lib.hid (HQ.out wZ (bthen HB1.out hbZ))
  clear hbZ
  go_wp2_with fail
  exact HX.out
 | false =>
 obtain ⟨wa, v1, w2, r0, r1, o2, hb2⟩ := giv1 w1 (.slice al l.length cl) l (HLR.out.below HB1.out) hll
 have R1 := Lib.hid r1
 have HB2 := Lib.hid hb2
 have HO2 := Lib.hid o2
 clear r1 hb2 o2
 go_wp2_with (at_builtin; refine wpList_append_run rfl _ _ _ _ R1.out rfl rfl rfl rfl ?_)
 clear r0
 refine (law20_name _ _).mono ?_
 rintro e w3 ⟨rfl, hb3⟩
 obtain ⟨g, c, w4, r2, hb4, o4⟩ := giv2 (owns_below HO2.out hb3) (bthen HB2.out hb3) (Nat.le_refl _) hll
 have R2 := Lib.hid r2
 have HB4 := Lib.hid (bthen HB1.out hb4)
 have HO4 := Lib.hid o4
 have hlc : l.length + 1 ≤ c := by
  obtain ⟨_, a, cap, e, h, _⟩ := Row.of_owns o4
  simp only [Value.slice.injEq] at e
  omega
 clear r2 hb4 o4 hb3 R1 HO2 HB2
 go_upto_region 4 with (at_builtin; refine wpList_append_run rfl _ _ _ _ R2.out rfl rfl rfl rfl ?_)
 clear R2
 have hlci : (l.length : Int) ≤ (c : Int) := by omega
 have hlci1 : (l.length : Int) ≤ (l.length : Int) + 1 := by omega
 have hl0 : (0 : Int) ≤ l.length := by omega
 have CA1 := Lib.hid (CA.out _ w4 HB4.out (askR_row HO4.out))
 go_wp2_with fail
 refine CA1.out.mono ?_
 intro e w5 h5
 obtain ⟨hb5, oa, oc, na, nc, rfl, hoc, hnc, ho5, hn5⟩ := HO.out _ _ _ h5
 have HB5 := Lib.hid (bthen HB4.out hb5)
 have HB5g := Lib.hid hb5
 have HO5 := Lib.hid ho5
 have HN5 := Lib.hid hn5
 have CA2 := Lib.hid (CA.out _ w5 HB5.out (askR_row (owns_below HO4.out hb5)))
 clear hb5 ho5 hn5 h5 CA1
 go_wp2_with fail
 refine CA2.out.mono ?_
 intro e w6 h6
 obtain ⟨hb6, oa2, oc2, na2, nc2, rfl, hoc2, hnc2, ho6, hn6⟩ := HO.out _ _ _ h6
 have HB6 := Lib.hid (bthen HB5.out hb6)
 have HB6g := Lib.hid (bthen HB5g.out hb6)
 have HO6 := Lib.hid ho6
 have HN6 := Lib.hid hn6
 have HF0 : RowKit.Hid (FrS w4.heap.size w5.heap.size w6 (.slice oa Zo.length oc) (.slice na Zo.length nc) Zo.length w6) := Lib.hid ⟨rfl, rfl, rfl, Nat.le_refl _, fun _ _ _ => rfl, ⟨_, owns_below HO5.out hb6⟩, ⟨_, owns_below HN5.out hb6⟩, fun b hb => (HO5.out.lt b hb).2, fun b hb => (HN5.out.lt b hb).2, hb6.size⟩
 clear hb6 ho6 hn6 h6 CA2
 go_wp2_with fail
 go_loopw [14] (fun iv wr => frA w4.heap.size w5.heap.size Zo.length w6 (.slice oa Zo.length oc) (.slice na Zo.length nc) iv wr) (fun iv _ => Zo.length - (intOf iv).toNat)
 case atStart => exact ⟨0, rfl, Nat.zero_le _, HF0.out⟩
 case round =>
  obtain ⟨i, rfl, hi, hf⟩ := hrel
  have HF := Lib.hid hf
  clear hf
  have hwi : IntKind.i64.wrap ((i : Int) + 1) = (i : Int) + 1 := by rw [IntKind.wrap_i64]; omega
  by_cases hlt : i < Zo.length
  ·obtain ⟨ga, rfl⟩ := ownsRow_some HO5.out (by omega)
   have hil : (i : Int) < Zo.length := by omega
   have hi0 : (0 : Int) ≤ (i : Int) := by omega
   have hic : (i : Int) < oc := by omega
   go_wp2_with fail
   refine (law20_name _ _).mono ?_
   rintro e wx ⟨rfl, hbx⟩
   have hF := HF.out.below hbx
   obtain ⟨xs, hx⟩ := hF.a
   obtain ⟨⟨u0, q0⟩, y0⟩ := own_cell hx (show i * 3 < Zo.length * 3 by omega)
   obtain ⟨⟨u1, q1⟩, y1⟩ := own_cell hx (show i * 3 + 1 < Zo.length * 3 by omega)
   obtain ⟨⟨u2, q2⟩, y2⟩ := own_cell hx (show i * 3 + 2 < Zo.length * 3 by omega)
   have HX : RowKit.Hid (frA w4.heap.size w5.heap.size Zo.length w6 (.slice (some ⟨ga, 0, none⟩) Zo.length oc) (.slice na Zo.length nc) (.int .i64 ((i : Int) + 1)) (((wx.setCell ⟨ga, i * 3, none⟩ (.int .u8 26)).setCell ⟨ga, i * 3 + 1, none⟩ (.int .i64 0)).setCell ⟨ga, i * 3 + 2, none⟩ (.string ⟨#[33]⟩))) := Lib.hid ⟨i + 1, by push_cast; rfl, hlt, ((hF.setA (by omega) _).setA (by omega) _).setA (by omega) _⟩
   clear hx hF hbx
   go_wp2_with fail
   exact ⟨HX.out, by simp only [intOf]; omega⟩
  ·obtain rfl : i = Zo.length := by omega
   have hil : ¬ (Zo.length : Int) < Zo.length := by omega
   go_wp2_with fail
   go_loopw [15] (fun iv wx => frA w4.heap.size w5.heap.size Zo.length w6 (.slice oa Zo.length oc) (.slice na Zo.length nc) iv wx) (fun iv _ => Zo.length - (intOf iv).toNat)
   case atStart => exact ⟨0, rfl, Nat.zero_le _, HF.out⟩
   case round =>
    obtain ⟨h, rfl, hh, hf⟩ := hrel
    have HFI := Lib.hid hf
    clear hf
    have hwh : IntKind.i64.wrap ((h : Int) + 1) = (h : Int) + 1 := by rw [IntKind.wrap_i64]; omega
    by_cases hlt2 : h < Zo.length
    ·obtain ⟨gx, rfl⟩ := ownsRow_some HN5.out (by omega)
     have hhl : (h : Int) < Zo.length := by omega
     have hh0 : (0 : Int) ≤ (h : Int) := by omega
     have hhc : (h : Int) < nc := by omega
     obtain ⟨ys, hy⟩ := HFI.out.x
     obtain ⟨⟨u0, q0⟩, y0⟩ := own_cell hy (show h < Zo.length * 1 by omega)
     have HX : RowKit.Hid (frA w4.heap.size w5.heap.size Zo.length w6 (.slice oa Zo.length oc) (.slice (some ⟨gx, 0, none⟩) Zo.length nc) (.int .i64 ((h : Int) + 1)) (wr.setCell ⟨gx, h, none⟩ (.int .i64 (-9)))) := Lib.hid ⟨h + 1, by push_cast; rfl, hlt2, HFI.out.setX hlt2 _⟩
     clear hy
     go_wp2_with fail
     exact ⟨HX.out, by simp only [intOf]; omega⟩
    ·obtain rfl : h = Zo.length := by omega
     have hhl : ¬ (Zo.length : Int) < Zo.length := by omega
     have HBR : RowKit.Hid (Below w.heap.size w wr) := Lib.hid (HFI.out.toBelow HB6.out HB4.out.size)
     have HBG : RowKit.Hid (Below w4.heap.size w4 wr) := Lib.hid (HFI.out.toBelow HB6g.out (Nat.le_refl _))
     have HO6r := Lib.hid (HFI.out.owns HO6.out)
     have HN6r := Lib.hid (HFI.out.owns HN6.out)
     have CA3 := Lib.hid (CA.out _ wr HBR.out (HLR.out.below HBR.out))
     clear HF HFI HO6 HN6
     go_wp2_with fail
     refine CA3.out.mono ?_
     intro e w7 h7
     obtain ⟨hb7, oa3, oc3, na3, nc3, rfl, hoc3, hnc3, ho7, hn7⟩ := HO.out _ _ _ h7
     have HB7 := Lib.hid (bthen HBR.out hb7)
     have HBG7 := Lib.hid (bthen HBG.out hb7)
     have HBD : RowKit.Hid (Below w7.heap.size w7 w7.drew) := Lib.hid (Below.refl _ _).drew
     have hpr : ∀ {W : World} {B : Nat} {v : Value}, W.ownsRow B 38 3 v Zo.length (partsV (Zo.map (·.1))) → PartRow W v (Zo.map (·.1)) := fun {W B v} h => by
      have := Row.of_owns h
      unfold PartRow
      rw [List.length_map]; exact this
     have hpi : ∀ {W : World} {B : Nat} {v : Value}, W.ownsRow B 3 1 v Zo.length (intsV (Zo.map (·.2))) → RowInts W v .i64 (Zo.map (·.2)) := fun {W B v} h => RowInts.of_owns h
     have CF7 := Lib.hid (fun W (hb : Below w7.heap.size w7 W) => CF.out W (bthen HB7.out hb))
     have CSM := Lib.hid (fun W (hb : Below w7.heap.size w7 W) => ref_Same11 _ _ (Zo.map (·.1)) (Zo.map (·.1)) (by rw [List.length_map]; omega) (by rw [List.length_map]; omega) W ((hpr (owns_below HO6r.out hb7)).below hb) ((hpr ho7).below hb))
     have CSI0 := fun W (hb : Below w7.heap.size w7 W) => ref_Ints _ _ (Zo.map (·.2)) (Zo.map (·.2)) (by rw [List.length_map]; omega) (by rw [List.length_map]; omega) W ((hpi (owns_below HN6r.out hb7)).below hb) ((hpi hn7).below hb)
     simp only [decide_true] at CSI0
     have CSI := Lib.hid CSI0
     have CS11 := Lib.hid (fun W (hb : Below w7.heap.size w7 W) => ref_Same11 _ _ l l (by omega) (by omega) W ((askR_row (owns_below HO4.out HBG7.out)).below hb) (HLR.out.below (bthen HB7.out hb)))
     have HS : RowKit.Hid (∀ W, Below w7.heap.size w7 W → W.cell? ⟨g, l.length * 3, none⟩ = some (.int .u8 26) ∧ W.cell? ⟨g, l.length * 3 + 1, none⟩ = some (.int .i64 0) ∧ W.cell? ⟨g, l.length * 3 + 2, none⟩ = some (.string ⟨#[63]⟩)) := Lib.hid fun W hb => askR_last (owns_below (owns_below HO4.out HBG7.out) hb)
     have HEND := Lib.hid (fun W (hb : Below w7.heap.size w7 W) => HQ.out W (bthen HB7.out hb))
     have hlci2 : (l.length : Int) < (l.length : Int) + 1 := by omega
     have hlci3 : l.length < l.length + 1 := by omega
     clear hb7 ho7 hn7 h7 CA3 HO6r HN6r hpr hpi CSI0
     go_upto_region 15 with (fail)
     go_region_held3 (fun W => W.cell? ⟨g, l.length * 3, none⟩ = some (.int .u8 26) ∧ W.cell? ⟨g, l.length * 3 + 1, none⟩ = some (.int .i64 0) ∧ W.cell? ⟨g, l.length * 3 + 2, none⟩ = some (.string ⟨#[63]⟩)) (first | exact HS.out _ HBD.out | exact HS.out _ (bthen HBD.out hb8) | exact HS.out _ (bthen (bthen HBD.out hb8) hb9) | exact HS.out _ (bthen (bthen (bthen HBD.out hb8) hb9) hb10) | exact HS.out _ (bthen (bthen (bthen (bthen HBD.out hb8) hb9) hb10) hb11) | exact HS.out _ (bthen (bthen (bthen (bthen (bthen HBD.out hb8) hb9) hb10) hb11) hb12)) (first | (go_at_call 7; (with_reducible refine (CF7.out _ HBD.out).mono ?_); (rintro e w8 ⟨rfl, hb8⟩); (try dsimp only)) | (go_at_call 15; (with_reducible refine (CSI.out _ (bthen (bthen HBD.out hb8) hb9)).mono ?_); (rintro e w10 ⟨rfl, hb10⟩); (try dsimp only)) | (go_at_call 13; (with_reducible refine (CSM.out _ (bthen HBD.out hb8)).mono ?_); (rintro e w9 ⟨x, rfl, ht, hb9⟩); (obtain rfl := ht.2 rfl); (try dsimp only)) | (go_at_call 13; (with_reducible refine (CS11.out _ (bthen (bthen (bthen HBD.out hb8) hb9) hb10)).mono ?_); (rintro e w11 ⟨x2, rfl, ht2, hb11⟩); (obtain rfl := ht2.2 rfl); (try dsimp only)) | (go_at_call 14; (with_reducible refine (law20_name _ _).mono ?_); (rintro e w12 ⟨rfl, hb12⟩); (try dsimp only)))
     all_goals
      have HX := Lib.hid (HEND.out w12 (bthen (bthen (bthen (bthen (bthen HBD.out hb8) hb9) hb10) hb11) hb12))
      clear hb8 hb9 hb10 hb11 hb12
      go_wp2_with fail
      exact HX.out
end Go.Proofs.YtmklemelgdilkaaDoor
