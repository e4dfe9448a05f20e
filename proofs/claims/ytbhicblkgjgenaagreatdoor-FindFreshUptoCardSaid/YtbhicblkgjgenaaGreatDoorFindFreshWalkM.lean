/- The statement FindFresh, walked: the call returns true. -/
import Derived.Test.YtbhicblkgjgenaaGreatDoorFix18M
import Derived.Test.YtbhicblkgjgenaaGreatDoorEachSM
import Derived.Test.YtbhicblkgjgenaaGreatDoorAllFM
import Derived.Test.YtbhicblkgjgenaaGreatDoorAppEqM
import Derived.Test.YtbhicblkgjgenaaGreatDoorSwapPM
import Derived.Test.YtbhicblkgjgenaaGreatDoorTermSameM
import Derived.Test.YtbhicblkgjgenaaGreatDoorStillM
import Derived.Deep.RegionHeld3
namespace Go.Proofs.YtbhicblkgjgenaaGreatDoor
set_option linter.all false
attribute [local irreducible] Calls
attribute [local irreducible] wpStill
open Go.RowKit

def askF (l : List Prt) : List Prt := l ++ [(26, 0, ⟨#[63]⟩)]
/-- 'append(make([]Part, 0, len(l)+1), l...)'. -/
theorem given1 (w : World) (v : Value) (l : List Prt) (hr : PartRow w v l) (hl : l.length ≤ 1048576) :
    ∃ wa v1 w1, (Instr.makeSlice 23 (.int .i64 0) (.int .i64 ((l.length : Int) + 1))).run Tryz.prog w = .ok (.slice (some ⟨w.heap.size, 0, none⟩) 0 (l.length + 1)) wa ∧
    (Builtin.append_ #[23, 23] 23 #[.slice (some ⟨w.heap.size, 0, none⟩) 0 (l.length + 1), v]).run Tryz.prog wa = .ok v1 w1 ∧
    w1.ownsRow w.heap.size 48 3 v1 l.length (partsV l) ∧ Below w.heap.size w w1 := by
  obtain ⟨i, hi, hz, hsz, hb⟩ := info_parts Tinfo_part
  have hmk := run_make (P := Tryz.prog) w 23 48 i _ Tryz.underlying23 hi hz .i64 .i64 0 ((l.length : Int) + 1) (by omega) (by omega) (by rw [hb]; omega) (by omega)
  rw [hsz] at hmk
  have hN : ((l.length : Int) + 1).toNat = l.length + 1 := by omega
  rw [hN] at hmk
  have ho0 : (w.alloc (.cells (zeroP (l.length + 1)) 48)).ownsRow w.heap.size 48 3 (.slice (some ⟨w.heap.size, 0, none⟩) 0 (l.length + 1)) 0 [] :=
    ⟨rfl, Or.inr ⟨w.heap.size, l.length + 1, zeroP (l.length + 1), rfl, Nat.le_refl _, heap_alloc_new _ _, by omega, by unfold maxLen; omega, by rw [zeroP_size], by simp⟩⟩
  have hb0 : Below w.heap.size w (w.alloc (.cells (zeroP (l.length + 1)) 48)) := (Below.refl _ _).alloc (Nat.le_refl _) _
  obtain ⟨v1, w1, r1, o1, g1, _⟩ := append_eq (P := Tryz.prog) _ 23 23 48 Tryz.underlying23 w.heap.size Tinfo_part rfl (by decide) _ 0 [] ho0 v l.length (partsV l) (hr.below hb0) (partsV_one l) (by omega) (by omega) hb0.size
  have hb1 := grown_keeps hb0 hb0.size ho0 g1
  rw [Nat.zero_add, List.nil_append] at o1
  exact ⟨_, v1, w1, hmk, r1, o1, hb1⟩
theorem given2 {B : Nat} {w0 w1 : World} {v1 : Value} {l : List Prt} (o1 : w1.ownsRow B 48 3 v1 l.length (partsV l)) (hb1 : Below B w0 w1) (hB : B ≤ w0.heap.size) (hl : l.length ≤ 1048576) :
    ∃ g c w2, (Builtin.append_ #[23, 23] 23 #[v1, .slice (some ⟨w1.heap.size, 0, none⟩) 1 1]).run Tryz.prog (w1.alloc (.cells #[.int .u8 26, .int .i64 0, .string ⟨#[63]⟩] 48)) = .ok (.slice (some ⟨g, 0, none⟩) (l.length + 1) c) w2 ∧
    Below B w0 w2 ∧ w2.ownsRow B 48 3 (.slice (some ⟨g, 0, none⟩) (l.length + 1) c) (l.length + 1) (partsV (askF l)) := by
  have hs := hb1.size
  obtain ⟨v2, w2, r2, o2, g2, _⟩ := append_lit_eq (P := Tryz.prog) w1 #[.int .u8 26, .int .i64 0, .string ⟨#[63]⟩] 48 23 23 48 Tryz.underlying23 B Tinfo_part rfl (by decide) v1 l.length (partsV l) o1 1 1 rfl (Nat.le_refl _) (by intro u hu; simp at hu; rcases hu with rfl | rfl | rfl <;> rfl) (by omega) (by omega) (by omega)
  have hb2 := grown_keeps (hb1.alloc (by omega) _) (by simp; omega) (o1.alloc _) g2
  have e2 : partsV l ++ (#[Value.int .u8 26, .int .i64 0, .string ⟨#[63]⟩] : Array Value).toList = partsV (askF l) := by unfold askF; rw [partsV_append]; rfl
  rw [e2] at o2
  obtain ⟨a2, m2, c2, rfl⟩ := owns_slice o2
  obtain rfl : m2 = l.length + 1 := by
    obtain ⟨_, _, _, e, _⟩ := Row.of_owns o2
    simp only [Value.slice.injEq] at e
    exact e.2.1
  obtain ⟨g, rfl⟩ := ownsRow_some o2 (by omega)
  exact ⟨g, c2, w2, r2, hb2, o2⟩
theorem askF_row {W : World} {B g c : Nat} {l : List Prt} (h : W.ownsRow B 48 3 (.slice (some ⟨g, 0, none⟩) (l.length + 1) c) (l.length + 1) (partsV (askF l))) : PartRow W (.slice (some ⟨g, 0, none⟩) l.length c) l := by
  have := ownsRow_take h (k := l.length) (by omega)
  have e : (partsV (askF l)).take (l.length * 3) = partsV l := by unfold askF; rw [partsV_append, ← partsV_length, List.take_left]
  rw [e] at this
  exact Row.of_owns this
theorem askF_last {W : World} {B g c : Nat} {l : List Prt} (h : W.ownsRow B 48 3 (.slice (some ⟨g, 0, none⟩) (l.length + 1) c) (l.length + 1) (partsV (askF l))) :
    W.cell? ⟨g, l.length * 3, none⟩ = some (.int .u8 26) ∧ W.cell? ⟨g, l.length * 3 + 1, none⟩ = some (.int .i64 0) ∧ W.cell? ⟨g, l.length * 3 + 2, none⟩ = some (.string ⟨#[63]⟩) := by
  have key : ∀ j, j < 3 → W.cell? ⟨g, l.length * 3 + j, none⟩ = (partV (26, 0, ⟨#[63]⟩))[j]? := fun j hj => by
    rw [h.cellAt _ (by omega)]
    unfold askF
    rw [partsV_append, List.getElem?_append_right (by rw [partsV_length]; omega), partsV_length, show l.length * 3 + j - l.length * 3 = j by omega]
    rfl
  have k0 := key 0 (by omega)
  rw [Nat.add_zero] at k0
  exact ⟨k0, key 1 (by omega), key 2 (by omega)⟩
def ffOut (B0 B1 ka : Nat) (w5 : World) (xs : List MchX) (iv : Value) (wr : World) : Prop := ∃ i : Nat, iv = .int .i64 (i : Int) ∧ i ≤ xs.length ∧ FreshW B0 B1 ka w5 wr xs
def ffIn (B0 B1 ka n : Nat) (w5 : World) (xs : List MchX) (hv : Value) (wr : World) : Prop := ∃ h : Nat, hv = .int .i64 (h : Int) ∧ h ≤ n ∧ FreshW B0 B1 ka w5 wr xs
set_option maxRecDepth 100000 in
set_option maxHeartbeats 16000000 in
theorem FindFresh_walk (w : World) (vr : Value) (rs : List RuleX) (hr : RulesIn w vr rs) (hs : ∀ x ∈ rs, SmallR x.1) (hn : rs.length ≤ 1048576) (vl : Value) (l : List Prt) (hlr : PartRow w vl l) (hl : SmallL l) (hH : HeldM w) :
    Calls Tryz.prog 8 #[vr, vl] w (AnswersM w) := by
  have HQ : RowKit.Hid (∀ w', Below w.heap.size w w' → AnswersM w (.returned (.bool true)) w') := Lib.hid fun w' h => AnswersM.mk h
  generalize AnswersM w = Q at *
  have CF := Lib.hid (fun w' (hb : Below w.heap.size w w') => law18_fixed w' (hH.T.below hb) (hH.M.below hb))
  have CG := Lib.hid (law18_great rs hs hn vr l hl.1 vl 20000 w hr hlr)
  have CA := Lib.hid (fun v w' (hb : Below w.heap.size w w') (hv : PartRow w' v l) => all_flat rs hs l hl vr v w' (hH.T.below hb) (hH.M.below hb) (hr.below hb) hv)
  have HSM := Lib.hid (fun m hm => allM_small (rules := rs.map (·.1)) (l := l) (fun r hr' => by obtain ⟨x, hx, rfl⟩ := List.mem_map.1 hr'; exact (hs x hx).h.1) hl.1 m hm)
  obtain ⟨ar, cr, rfl, hcr⟩ := hr.shape
  obtain ⟨al, cl, rfl, hcl⟩ := hlr.slice
  have HLR := Lib.hid hlr
  have hll := hl.1
  have HAL : RowKit.Hid (findErr (rs.map (·.1)) l = 0 → (allM (rs.map (·.1)) l).length ≤ 1048576 * 32) := Lib.hid fun hz => by
    have h32 : rs.length ≤ 32 := by have := (findErr_zero.1 hz).2.1; rw [List.length_map] at this; exact this
    have h1 := accM_len (rs.map (·.1)) l l.length 0
    rw [accM_all, List.length_map] at h1
    have h2 : l.length * rs.length ≤ 1048576 * 32 := Nat.mul_le_mul hll h32
    omega
  clear hr hlr hs hl hH
  go_enter Tryz.func8, Tryz.ntmps8
  go_wp2_with fail
  refine CG.out.mono ?_
  intro e w1 h1
  obtain ⟨y, rfl, hb1⟩ := h1.out
  have HB1 := Lib.hid hb1
  clear h1 hb1 CG
  cases y with
  | true =>
    go_wp2_with fail
    refine (CF.out w1 HB1.out).mono ?_
    rintro e wZ ⟨rfl, hbZ⟩
    have HX := Lib.hid (HQ.out wZ (bthen HB1.out hbZ))
    clear hbZ
    go_wp2_with fail
    exact HX.out
  | false =>
  obtain ⟨wa, v1, w2, r0, r1, o2, hb2⟩ := given1 w1 (.slice al l.length cl) l (HLR.out.below HB1.out) hll
  have R1 := Lib.hid r1
  have HB2 := Lib.hid hb2
  have HO2 := Lib.hid o2
  clear r1 hb2 o2
  go_wp2_with (at_builtin; refine wpList_append_run rfl _ _ _ _ R1.out rfl rfl rfl rfl ?_)
  clear r0
  refine (law18_name _ _).mono ?_
  rintro e w3 ⟨rfl, hb3⟩
  obtain ⟨g, c, w4, r2, hb4, o4⟩ := given2 (owns_below HO2.out hb3) (bthen HB2.out hb3) (Nat.le_refl _) hll
  have R2 := Lib.hid r2
  have HB4 := Lib.hid (bthen HB1.out hb4)
  have HO4 := Lib.hid o4
  have hlc : l.length + 1 ≤ c := by
    obtain ⟨_, a, cap, e, h, _⟩ := Row.of_owns o4
    simp only [Value.slice.injEq] at e
    omega
  clear r2 hb4 o4 hb3 R1 HO2 HB2
  go_upto_region 4 with (at_builtin; refine wpList_append_run rfl _ _ _ _ R2.out rfl rfl rfl rfl ?_)
  clear R2
  have hlci : (l.length : Int) ≤ (c : Int) := by omega
  have hlci1 : (l.length : Int) ≤ (l.length : Int) + 1 := by omega
  have hl0 : (0 : Int) ≤ l.length := by omega
  have CA1 := Lib.hid (CA.out _ w4 HB4.out (askF_row HO4.out))
  go_wp2_with fail
  refine CA1.out.mono ?_
  rintro e w5 ⟨va, vc, xs, rfl, hvc, hxs, hms, hb5, hown5, hmem5⟩
  have HB5 := Lib.hid (bthen HB4.out hb5)
  have HB5g := Lib.hid hb5
  have HO5 := Lib.hid hown5
  have HM5 := Lib.hid hmem5
  have HXS := Lib.hid hxs
  have HMS := Lib.hid hms
  have CA2 := Lib.hid (CA.out _ w5 HB5.out (askF_row (owns_below HO4.out hb5)))
  clear hb5 hown5 hmem5 hxs hms CA1
  go_wp2_with fail
  refine CA2.out.mono ?_
  rintro e w6 ⟨va2, vc2, ys, rfl, hvc2, hys, hms2, hb6, hown6, hmem6⟩
  have HB6 := Lib.hid (bthen HB5.out hb6)
  have HB6g := Lib.hid (bthen HB5g.out hb6)
  have HO6 := Lib.hid hown6
  have HM6 := Lib.hid hmem6
  have HYS := Lib.hid hys
  obtain ⟨ka, hka, hF⟩ := FreshW.start HO5.out HM5.out hb6
  have HF0 := Lib.hid hF
  have HKA := Lib.hid hka
  have HXL : RowKit.Hid (xs.length ≤ 1048576 * 32) := Lib.hid (by
    have h := congrArg List.length HXS.out
    rw [List.length_map] at h
    by_cases hz : findErr (rs.map (·.1)) l = 0
    · rw [if_pos hz] at h; have := HAL.out hz; omega
    · rw [if_neg hz, List.length_nil] at h; omega)
  have HXB : RowKit.Hid (∀ x ∈ xs, x.1.2.2.length ≤ 1048576 ∧ ∃ a c, x.2 = .slice a x.1.2.2.length c ∧ x.1.2.2.length ≤ c) := Lib.hid fun x hx => by
    refine ⟨?_, Row.shape (HMS.out.E x hx)⟩
    have hm : x.1 ∈ xs.map (·.1) := List.mem_map_of_mem hx
    rw [HXS.out] at hm
    by_cases hz : findErr (rs.map (·.1)) l = 0
    · rw [if_pos hz] at hm; exact HSM.out _ hm
    · rw [if_neg hz] at hm; cases hm
  clear hb6 hown6 hmem6 hys hms2 hF hka CA2 HO5 HM5 HMS
  have hxl := HXL.out
  go_wp2_with fail
  go_loopw [10] (fun iv wr => ffOut w4.heap.size w5.heap.size ka w6 xs iv wr) (fun iv _ => xs.length - (intOf iv).toNat)
  case atStart => exact ⟨0, rfl, Nat.zero_le _, HF0.out⟩
  case round =>
    obtain ⟨i, rfl, hi, hf⟩ := hrel
    have HF := Lib.hid hf
    clear hf
    have hwi : IntKind.i64.wrap ((i : Int) + 1) = (i : Int) + 1 := by rw [IntKind.wrap_i64]; omega
    by_cases hlt : i < xs.length
    · obtain ⟨hva, hkc⟩ := HKA.out (by omega)
      subst hva
      have hil : (i : Int) < xs.length := by omega
      have hi0 : (0 : Int) ≤ (i : Int) := by omega
      have hic : (i : Int) < vc := by omega
      have hmem := List.getElem_mem hlt
      obtain ⟨hxn, xa, xc, hxv, hxc⟩ := HXB.out _ hmem
      have HROW : RowKit.Hid (∀ W, FreshW w4.heap.size w5.heap.size ka w6 W xs → W.cell? ⟨ka, i * 3 + 2, none⟩ = some (.slice xa (xs[i]).1.2.2.length xc) ∧ (∃ v, W.cell? ⟨ka, i * 3 + 1, none⟩ = some v) ∧ W.frozen? ⟨ka, i * 3 + 1, none⟩ = false) := Lib.hid fun W hW => by
        have := hW.rowc hlt
        rw [hxv] at this
        exact this
      have HBC : RowKit.Hid (∀ W, FreshW w4.heap.size w5.heap.size ka w6 W xs → ∀ j, j < (xs[i]).1.2.2.length → ∃ g, xa = some ⟨g, 0, none⟩ ∧ (∃ v0 v1 v2, W.cell? ⟨g, j * 3, none⟩ = some v0 ∧ W.cell? ⟨g, j * 3 + 1, none⟩ = some v1 ∧ W.cell? ⟨g, j * 3 + 2, none⟩ = some v2) ∧ W.frozen? ⟨g, j * 3, none⟩ = false ∧ W.frozen? ⟨g, j * 3 + 1, none⟩ = false ∧ W.frozen? ⟨g, j * 3 + 2, none⟩ = false ∧ ∀ a b c', FreshW w4.heap.size w5.heap.size ka w6 (((W.setCell ⟨g, j * 3, none⟩ a).setCell ⟨g, j * 3 + 1, none⟩ b).setCell ⟨g, j * 3 + 2, none⟩ c') xs) := Lib.hid fun W hW j hj => by
        obtain ⟨g, c, e1, e2, e3, e4⟩ := hW.bindc hmem hj
        rw [hxv] at e1
        simp only [Value.slice.injEq] at e1
        exact ⟨g, e1.1, e3, e4⟩
      have HPART : RowKit.Hid (∀ W, FreshW w4.heap.size w5.heap.size ka w6 W xs → FreshW w4.heap.size w5.heap.size ka w6 (W.setCell ⟨ka, i * 3 + 1, none⟩ (.int .i64 (-1))) xs) := Lib.hid fun W hW => hW.part (by omega) i _
      clear hmem hxv
      generalize (xs[i]).1.2.2.length = nb at *
      go_wp2_with fail
      go_loopw [11] (fun hv wr => ffIn w4.heap.size w5.heap.size ka nb w6 xs hv wr) (fun hv _ => nb - (intOf hv).toNat)
      case atStart => exact ⟨0, rfl, Nat.zero_le _, HF.out⟩
      case round =>
        obtain ⟨h, rfl, hh, hf⟩ := hrel
        have HFI := Lib.hid hf
        clear hf
        have hwh : IntKind.i64.wrap ((h : Int) + 1) = (h : Int) + 1 := by rw [IntKind.wrap_i64]; omega
        obtain ⟨q2, ⟨u1, q1⟩, z1⟩ := HROW.out wr HFI.out
        by_cases hlt2 : h < nb
        · obtain ⟨gx, rfl, ⟨v0, v1', v2, b0, b1, b2⟩, y0, y1, y2, HST⟩ := HBC.out wr HFI.out h hlt2
          have hhl : (h : Int) < nb := by omega
          have hh0 : (0 : Int) ≤ (h : Int) := by omega
          have hhc : (h : Int) < xc := by omega
          have HX : RowKit.Hid (ffIn w4.heap.size w5.heap.size ka nb w6 xs (.int .i64 ((h : Int) + 1)) (((wr.setCell ⟨gx, h * 3, none⟩ (.string ⟨#[63]⟩)).setCell ⟨gx, h * 3 + 1, none⟩ (.int .i64 0)).setCell ⟨gx, h * 3 + 2, none⟩ (.int .i64 0))) := Lib.hid ⟨h + 1, by push_cast; rfl, hlt2, HST _ _ _⟩
          clear HST
          go_wp2_with fail
          exact ⟨HX.out, by simp only [intOf]; omega⟩
        · obtain rfl : h = nb := by omega
          have hhl : ¬ (h : Int) < (h : Int) := by omega
          have HX : RowKit.Hid (ffOut w4.heap.size w5.heap.size ka w6 xs (.int .i64 ((i : Int) + 1)) (wr.setCell ⟨ka, i * 3 + 1, none⟩ (.int .i64 (-1)))) := Lib.hid ⟨i + 1, by push_cast; rfl, hlt, HPART.out wr HFI.out⟩
          go_wp2_with fail
          exact ⟨HX.out, by simp only [intOf]; omega⟩
    · obtain rfl : i = xs.length := by omega
      have hil : ¬ (xs.length : Int) < xs.length := by omega
      have HBR : RowKit.Hid (Below w.heap.size w wr) := Lib.hid (HF.out.below HB6.out HB4.out.size)
      have HBG : RowKit.Hid (Below w4.heap.size w4 wr) := Lib.hid (HF.out.below HB6g.out (Nat.le_refl _))
      have HO6r := Lib.hid (HF.out.owns (Nat.le_refl _) HO6.out)
      have HM6r : RowKit.Hid (∀ x ∈ ys, BindRow wr x.2 x.1.2.2) := Lib.hid fun x hx => Row.of_owns (HF.out.owns (Nat.le_refl _) (HM6.out x hx))
      have CA3 := Lib.hid (CA.out _ wr HBR.out (HLR.out.below HBR.out))
      clear HF HO6 HM6
      go_wp2_with fail
      refine CA3.out.mono ?_
      rintro e w7 ⟨va3, vc3, zs, rfl, hvc3, hzs, hms3, hb7, _, _⟩
      have HB7 := Lib.hid (bthen HBR.out hb7)
      have HBG7 := Lib.hid (bthen HBG.out hb7)
      have HMY : RowKit.Hid (MchsIn w7 (.slice va2 ys.length vc2) ys) := Lib.hid (MchsIn.below ⟨Row.of_owns HO6r.out, HM6r.out⟩ hb7)
      have HMZ := Lib.hid hms3
      have HZS := Lib.hid hzs
      have HBD : RowKit.Hid (Below w7.heap.size w7 w7.drew) := Lib.hid (Below.refl _ _).drew
      have hsmall : ∀ (ts : List MchX), ts.map (·.1) = (if findErr (rs.map (·.1)) l = 0 then allM (rs.map (·.1)) l else []) → ts.length ≤ 100000000 ∧ ∀ x ∈ ts, x.1.2.2.length ≤ 1048576 := fun ts hts => by
        refine ⟨?_, fun x hx => ?_⟩
        · have h := congrArg List.length hts
          rw [List.length_map] at h
          by_cases hz : findErr (rs.map (·.1)) l = 0
          · rw [if_pos hz] at h; have := HAL.out hz; omega
          · rw [if_neg hz, List.length_nil] at h; omega
        · have hm : x.1 ∈ ts.map (·.1) := List.mem_map_of_mem hx
          rw [hts] at hm
          by_cases hz : findErr (rs.map (·.1)) l = 0
          · rw [if_pos hz] at hm; exact HSM.out _ hm
          · rw [if_neg hz] at hm; cases hm
      have hsy := hsmall ys HYS.out
      have hsz := hsmall zs HZS.out
      have CF7 := Lib.hid (fun W (hb : Below w7.heap.size w7 W) => CF.out W (bthen HB7.out hb))
      have CSM := Lib.hid (fun W (hb : Below w7.heap.size w7 W) => ref_Same18 ys zs hsy.1 hsz.1 hsy.2 hsz.2 _ _ W (HMY.out.below hb) (HMZ.out.below hb))
      have HYZ := Lib.hid (HYS.out.trans HZS.out.symm)
      have CS11 := Lib.hid (fun W (hb : Below w7.heap.size w7 W) => ref_Same11 _ _ l l (by omega) (by omega) W ((askF_row (owns_below HO4.out HBG7.out)).below hb) (HLR.out.below (bthen HB7.out hb)))
      have HS : RowKit.Hid (∀ W, Below w7.heap.size w7 W → W.cell? ⟨g, l.length * 3, none⟩ = some (.int .u8 26) ∧ W.cell? ⟨g, l.length * 3 + 1, none⟩ = some (.int .i64 0) ∧ W.cell? ⟨g, l.length * 3 + 2, none⟩ = some (.string ⟨#[63]⟩)) := Lib.hid fun W hb => askF_last (owns_below (owns_below HO4.out HBG7.out) hb)
      have HEND := Lib.hid (fun W (hb : Below w7.heap.size w7 W) => HQ.out W (bthen HB7.out hb))
      have hlci2 : (l.length : Int) < (l.length : Int) + 1 := by omega
      have hlci3 : l.length < l.length + 1 := by omega
      clear hb7 hms3 hzs hsmall hsy hsz CA3 HO6r HM6r HMY HMZ
      go_upto_region 15 with (fail)
      go_region_held3 (fun W => W.cell? ⟨g, l.length * 3, none⟩ = some (.int .u8 26) ∧ W.cell? ⟨g, l.length * 3 + 1, none⟩ = some (.int .i64 0) ∧ W.cell? ⟨g, l.length * 3 + 2, none⟩ = some (.string ⟨#[63]⟩)) (first | exact HS.out _ HBD.out | exact HS.out _ (bthen HBD.out hb8) | exact HS.out _ (bthen (bthen HBD.out hb8) hb9) | exact HS.out _ (bthen (bthen (bthen HBD.out hb8) hb9) hb10) | exact HS.out _ (bthen (bthen (bthen (bthen HBD.out hb8) hb9) hb10) hb11)) (first | (go_at_call 30; (with_reducible refine (CF7.out _ HBD.out).mono ?_); (rintro e w8 ⟨rfl, hb8⟩); (try dsimp only)) | (go_at_call 33; (with_reducible refine (CSM.out _ (bthen HBD.out hb8)).mono ?_); (rintro e w9 ⟨x, rfl, ht, hb9⟩); (obtain rfl := ht.2 HYZ.out); (try dsimp only)) | (go_at_call 26; (with_reducible refine (CS11.out _ (bthen (bthen HBD.out hb8) hb9)).mono ?_); (rintro e w10 ⟨x2, rfl, ht2, hb10⟩); (obtain rfl := ht2.2 rfl); (try dsimp only)) | (go_at_call 31; (with_reducible refine (law18_name _ _).mono ?_); (rintro e w11 ⟨rfl, hb11⟩); (try dsimp only)))
      all_goals
        have HX := Lib.hid (HEND.out w11 (bthen (bthen (bthen (bthen HBD.out hb8) hb9) hb10) hb11))
        clear hb8 hb9 hb10 hb11
        go_wp2_with fail
        exact HX.out
end Go.Proofs.YtbhicblkgjgenaaGreatDoor
