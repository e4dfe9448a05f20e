/- The statement MatchMoved, walked: the call returns true. -/
import Derived.Test.YtbhicblkgjgenaaDoorEachSM
import Derived.Test.YtbhicblkgjgenaaDoorStillM
import Derived.Test.YtbhicblkgjgenaaDoorOpenPartsM
import Derived.Deep.RegionHeld3
namespace Go.Proofs.YtbhicblkgjgenaaDoor
set_option linter.all false
attribute [local irreducible] Calls
attribute [local irreducible] wpStill
open Go.RowKit

def kE : Prt := (11, 3, ⟨#[]⟩)
def zN : Prt := (26, 0, ⟨#[122]⟩)
set_option maxRecDepth 100000 in
set_option maxHeartbeats 16000000 in
theorem MatchMoved_walk (w : World) (x : RuleX) (hin : RuleIn w x.1 x.2.1 x.2.2.1 x.2.2.2) (hs : SmallR x.1) (vl : Value) (l : List Prt) (hr : PartRow w vl l) (hl : SmallL l) (i : Int) (hH : HeldM w) :
    Calls Tryd.prog 3 #[ruleAgg x.1 x.2.1 x.2.2.1 x.2.2.2, vl, .int .i64 i] w (AnswersM w) := by
  obtain ⟨r, vh, vf, vb⟩ := x
  simp only [] at hin hs ⊢
  have HQ : RowKit.Hid (∀ w', Below w.heap.size w w' → AnswersM w (.returned (.bool true)) w') := Lib.hid fun w' h => AnswersM.mk h
  generalize AnswersM w = Q at *
  have CF := Lib.hid (fun w' (hb : Below w.heap.size w w') => law17_fixed w' (hH.T.below hb) (hH.M.below hb))
  obtain ⟨ah, ch, rfl, hch⟩ := Row.shape hin.H
  obtain ⟨af, cf, rfl, hcf⟩ := hin.F.slice
  obtain ⟨ab, cb, rfl, hcb⟩ := hin.B.slice
  obtain ⟨al, cl, rfl, hcl⟩ := hr.slice
  have HIN := Lib.hid hin
  have HS := Lib.hid hs
  have HR := Lib.hid hr
  have HL := Lib.hid hl
  have HH := Lib.hid hH
  have hll := hl.1
  have HR1 : RowKit.Hid (RK (w.alloc (.cells #[.string r.nm, .int .u8 (r.goal : Int), .slice ah r.holes.length ch, .slice af r.fnd.length cf, .slice ab r.by'.length cb] 25)) w.heap.size r.nm r.goal (.slice ah r.holes.length ch) (.slice af r.fnd.length cf) (.slice ab r.by'.length cb)) := Lib.hid (heap_alloc_new _ _)
  have HB1 : RowKit.Hid (Below w.heap.size w (w.alloc (.cells #[.string r.nm, .int .u8 (r.goal : Int), .slice ah r.holes.length ch, .slice af r.fnd.length cf, .slice ab r.by'.length cb] 25))) := Lib.hid ((Below.refl _ _).alloc (Nat.le_refl _) _)
  clear hin hs hr hl hH
  unfold ruleAgg
  go_enter Tryd.func3, Tryd.ntmps3
  go_upto_region 1 with (fail)
  generalize w.alloc (.cells #[.string r.nm, .int .u8 (r.goal : Int), .slice ah r.holes.length ch, .slice af r.fnd.length cf, .slice ab r.by'.length cb] 25) = W1 at *
  obtain ⟨e0, e1, e2, e3, e4⟩ := HR1.out.cells
  by_cases hbig : 2000 < l.length
  · have h1' : (2000 : Int) < l.length := by omega
    go_wp2_with fail
    refine (CF.out W1 HB1.out).mono ?_
    rintro e wZ ⟨rfl, hbZ⟩
    have HX := Lib.hid (HQ.out wZ (bthen HB1.out hbZ))
    clear hbZ
    go_wp2_with fail
    exact HX.out
  have h1' : ¬ (2000 : Int) < l.length := by omega
  have CW := Lib.hid (ref_Well11 l (by omega) _ W1 (HR.out.below HB1.out))
  clear hbig
  go_wp2_with fail
  refine CW.out.mono ?_
  rintro e w2 ⟨rfl, rfl⟩
  cases hw : wellB l with
  | false =>
    clear hw
    go_wp2_with fail
    refine (CF.out W1 HB1.out).mono ?_
    rintro e wZ ⟨rfl, hbZ⟩
    have HX := Lib.hid (HQ.out wZ (bthen HB1.out hbZ))
    clear hbZ
    go_wp2_with fail
    exact HX.out
  | true =>
  have HW := Lib.hid hw
  clear hw CW
  by_cases hi0 : i < 0
  · go_wp2_with fail
    refine (CF.out W1 HB1.out).mono ?_
    rintro e wZ ⟨rfl, hbZ⟩
    have HX := Lib.hid (HQ.out wZ (bthen HB1.out hbZ))
    clear hbZ
    go_wp2_with fail
    exact HX.out
  by_cases hil : (l.length : Int) ≤ i
  · go_wp2_with fail
    refine (CF.out W1 HB1.out).mono ?_
    rintro e wZ ⟨rfl, hbZ⟩
    have HX := Lib.hid (HQ.out wZ (bthen HB1.out hbZ))
    clear hbZ
    go_wp2_with fail
    exact HX.out
  obtain ⟨j, rfl⟩ : ∃ j : Nat, i = (j : Int) := ⟨i.toNat, by omega⟩
  have hj : j < l.length := by omega
  have CG := Lib.hid (ref_Great [(r, .slice ah r.holes.length ch, .slice af r.fnd.length cf, .slice ab r.by'.length cb)] (fun x hx => by rw [List.mem_singleton] at hx; rw [hx]; exact HS.out) (by simp) _ 800 _ (lit_rule W1 (r, .slice ah r.holes.length ch, .slice af r.fnd.length cf, .slice ab r.by'.length cb) (HIN.out.below HB1.out)))
  have HB2 := Lib.hid (HB1.out.alloc HB1.out.size (.cells (ruleV (r, .slice ah r.holes.length ch, .slice af r.fnd.length cf, .slice ab r.by'.length cb)).toArray 25))
  have HR2 := Lib.hid (HR1.out.below ((Below.refl _ _).alloc (Nat.le_refl _) (.cells (ruleV (r, .slice ah r.holes.length ch, .slice af r.fnd.length cf, .slice ab r.by'.length cb)).toArray 25)))
  unfold ruleV at CG HB2 HR2
  simp only [] at CG HB2 HR2
  go_wp2_with fail
  refine CG.out.mono ?_
  intro e w3 h3
  obtain ⟨y, rfl, hb3⟩ := h3.out
  have HB3 := Lib.hid (bthen HB2.out hb3)
  have HR3 := Lib.hid (HR2.out.below hb3)
  clear h3 hb3 CG HB2 HR2 e0 e1 e2 e3 e4 HB1 HR1
  obtain ⟨e0, e1, e2, e3, e4⟩ := HR3.out.cells
  cases y with
  | true =>
    go_wp2_with fail
    refine (CF.out w3 HB3.out).mono ?_
    rintro e wZ ⟨rfl, hbZ⟩
    have HX := Lib.hid (HQ.out wZ (bthen HB3.out hbZ))
    clear hbZ
    go_wp2_with fail
    exact HX.out
  | false =>
  have CY := Lib.hid (ref_Ways17 r HS.out.h.1 _ _ _ l hll _ w3 (HIN.out.below HB3.out) (HR.out.below HB3.out))
  unfold ruleAgg at CY
  go_wp2_with fail
  refine CY.out.mono ?_
  intro e w4 h4
  obtain ⟨z, rfl, hb4⟩ := h4.out
  have HB4 := Lib.hid (bthen HB3.out hb4)
  have HR4 := Lib.hid (HR3.out.below hb4)
  clear h4 hb4 CY HB3 HR3 e0 e1 e2 e3 e4
  obtain ⟨e0, e1, e2, e3, e4⟩ := HR4.out.cells
  by_cases hz : 100000 < z
  · go_wp2_with fail
    refine (CF.out w4 HB4.out).mono ?_
    rintro e wZ ⟨rfl, hbZ⟩
    have HX := Lib.hid (HQ.out wZ (bthen HB4.out hbZ))
    clear hbZ
    go_wp2_with fail
    exact HX.out
  have HLL : RowKit.Hid (l.length ≤ 2000) := Lib.hid (by omega)
  have hg := endB_gt (well_rows HW.out) hj
  obtain ⟨sp, sc, hsl, hpr⟩ := slice_piece w _ l HR.out j (endB l j) (by omega) hg.2
  have hsp := piece_small HL.out j (endB l j)
  have hA : atZ r l (j : Int) = (atZ r (piece l j (endB l j)) 0).map (shift j) := atZ_part HW.out hj
  have hpw := piece_well (well_rows HW.out) hj
  have hwf := wide_facts (z := zN) (k := kE) hpw.1 rfl rfl
  have hC : atZ r (wideL zN kE (piece l j (endB l j))) 2 = (atZ r (piece l j (endB l j)) 0).map (shift 2) := by
    have h := atZ_sits (r := r) hwf.2 hpw.1 hwf.1 (by unfold wideL; simp)
    exact h
  have hbA := bndO_shift (r := r) (l := piece l j (endB l j)) (i := 0) j
  have hbC := bndO_shift (r := r) (l := piece l j (endB l j)) (i := 0) 2
  rw [← hA] at hbA
  rw [← hC] at hbC
  have hbS := bndO_small (r := r) (l := piece l j (endB l j)) (i := 0) hsp.1
  have hbL : (bndO r (atZ r (piece l j (endB l j)) 0)).length ≤ 1048576 := by
    cases h : atZ r (piece l j (endB l j)) 0 with
    | none => simp [bndO]
    | some τ => show (bindsOf r.holes τ).length ≤ _; rw [(binds_small h hsp.1).1]; exact HS.out.h.1
  have CE := Lib.hid (fun W (hb : Below w.heap.size w W) => ref_End11 l (by omega) _ j (by omega) W (HR.out.below hb))
  rw [endR_end (well_rows HW.out) hj] at CE
  simp only [endI] at CE
  have CA := Lib.hid (at_flat r HS.out _ _ _ l HL.out _ (j : Int) w4 (HH.out.T.below HB4.out) (HH.out.M.below HB4.out) (HIN.out.below HB4.out) (HR.out.below HB4.out))
  have CB := Lib.hid (fun W (hb : Below w.heap.size w W) => at_flat r HS.out _ _ _ (piece l j (endB l j)) hsp _ 0 W (HH.out.T.below hb) (HH.out.M.below hb) (HIN.out.below hb) (hpr.below hb))
  have hok : (atZ r l (j : Int)).isSome = (atZ r (piece l j (endB l j)) 0).isSome := by rw [hA]; cases atZ r (piece l j (endB l j)) 0 <;> rfl
  have hok2 : (atZ r (wideL zN kE (piece l j (endB l j))) 2).isSome = (atZ r (piece l j (endB l j)) 0).isSome := by rw [hC]; cases atZ r (piece l j (endB l j)) 0 <;> rfl
  have hwl : SmallL (wideL zN kE (piece l j (endB l j))) := by
    refine ⟨?_, fun p hp => ?_⟩
    · unfold wideL; simp; have := hpw.2; have := HLL.out; omega
    · unfold wideL at hp
      rcases List.mem_cons.1 hp with rfl | hp
      · decide
      · rcases List.mem_cons.1 hp with rfl | hp
        · decide
        · rcases List.mem_append.1 hp with hp | hp
          · exact hsp.2 p hp
          · obtain rfl : p = zN := by simpa using hp
            decide
  have CC := Lib.hid (fun W (hb : Below w.heap.size w W) vw (hv : PartRow W vw (wideL zN kE (piece l j (endB l j)))) => at_flat r HS.out _ _ _ _ hwl vw 2 W (HH.out.T.below hb) (HH.out.M.below hb) (HIN.out.below hb) hv)
  unfold ruleAgg at CA CB CC
  have HPR := Lib.hid hpr
  have HPL := Lib.hid hpw.2
  have HOK := Lib.hid hok
  have HOK2 := Lib.hid hok2
  have HBA := Lib.hid hbA
  have HBC := Lib.hid hbC
  have HBS := Lib.hid hbS
  have HBL := Lib.hid hbL
  have hz0 : (0 : Int) ≤ (endB l j : Int) := by omega
  have hzi : (j : Int) ≤ (endB l j : Int) := by omega
  have hzl : (endB l j : Int) ≤ l.length := by omega
  clear hpr hsp hA hpw hwf hC hbA hbC hbS hok hok2 hwl hbL
  unfold FlatP at CA CB CC
  generalize atZ r (piece l j (endB l j)) 0 = o at *
  generalize hbo : bndO r o = B at *
  generalize atZ r l (j : Int) = oa at *
  generalize hba : bndO r oa = BA at *
  generalize hPP : piece l j (endB l j) = PP at *
  generalize endB l j = zz at *
  go_wp2_with fail
  refine CA.out.mono ?_
  rintro e w5 ⟨qa, qc, rfl, hqc, hbr, hb5⟩
  clear hbo hba hPP
  have hlA : BA.length = B.length := by rw [HBA.out, List.length_map]
  rw [hlA] at hbr hqc ⊢
  rw [HOK.out]
  have HOA := Lib.hid hbr
  have HB5 := Lib.hid (bthen HB4.out hb5)
  have HR5 := Lib.hid (HR4.out.below hb5)
  clear hlA hbr hb5 CA HB4 HR4 e0 e1 e2 e3 e4 HOK
  obtain ⟨e0, e1, e2, e3, e4⟩ := HR5.out.cells
  go_wp2_with fail
  refine (CE.out w5 HB5.out).mono ?_
  rintro e w5' ⟨rfl, rfl⟩
  go_wp2_with fail
  refine (CB.out w5 HB5.out).mono ?_
  rintro e w6 ⟨pa, pc, rfl, hpc, hbr, hb6⟩
  generalize o.isSome = ok at *
  have HOA6 := Lib.hid (HOA.out.below hb6)
  have HOB := Lib.hid hbr
  have HB6 := Lib.hid (bthen HB5.out hb6)
  have HR6 := Lib.hid (HR5.out.below hb6)
  clear hbr hb6 HOA HB5 HR5 e0 e1 e2 e3 e4 hsl CE CB
  go_wp2_with fail
  refine (law17_name _ _).mono ?_
  rintro e w7 ⟨rfl, hb7⟩
  have HB7 := Lib.hid (bthen HB6.out hb7)
  have HR7 := Lib.hid (HR6.out.below hb7)
  have HOA7 := Lib.hid (HOA6.out.below hb7)
  have HOB7 := Lib.hid (HOB.out.below hb7)
  clear hb7 HB6 HR6 HOA6 HOB
  have hb8 : Below w7.heap.size w7 (w7.alloc (.cells #[.int .u8 11, .int .i64 3, .string ⟨#[]⟩, .int .u8 26, .int .i64 0, .string ⟨#[122]⟩] 36)) := (Below.refl _ _).alloc (Nat.le_refl _) _
  have hpl := HPL.out
  have hl2 := HLL.out
  obtain ⟨v9, w9, hr, ho, hgr, _⟩ := append_eq (P := Tryd.prog) (w7.alloc (.cells #[.int .u8 11, .int .i64 3, .string ⟨#[]⟩, .int .u8 26, .int .i64 0, .string ⟨#[122]⟩] 36)) 23 23 36 Tryd.underlying23 w7.heap.size Minfo_part rfl (by decide) _ 2 (partsV [kE, zN]) (lit_owns2 w7 [kE, zN] (by decide)) (.slice sp (zz - j) sc) PP.length (partsV PP) ((HPR.out.below HB7.out).below hb8) (parts_oneCell PP) (by omega) (by omega) hb8.size
  have hb9 : Below w7.heap.size w7 w9 := hb8.grown hgr hb8.size (fun q e => by cases e; exact Nat.le_refl _)
  obtain ⟨a9, n9, c9, rfl⟩ := owns_slice ho
  have HO9 := Lib.hid ho
  have HB9 := Lib.hid hb9
  clear ho hgr hb8 hb9
  go_wp2_with (at_builtin; refine wpList_append_run rfl _ _ _ _ hr rfl rfl rfl rfl ?_)
  clear hr
  refine (law17_name _ _).mono ?_
  rintro e w10 ⟨rfl, hb10⟩
  have HO10 := Lib.hid (owns_below HO9.out hb10)
  have HB10 := Lib.hid (bthen HB9.out hb10)
  clear hb10 HO9 HB9
  obtain ⟨v12, w12, hr, ho, hgr, _⟩ := append_lit_eq (P := Tryd.prog) w10 #[.int .u8 26, .int .i64 0, .string ⟨#[122]⟩] 36 23 23 36 Tryd.underlying23 w7.heap.size Minfo_part rfl (by decide) _ (2 + PP.length) (partsV [kE, zN] ++ partsV PP) HO10.out 1 1 rfl (Nat.le_refl _) (fun u hu => parts_oneCell [zN] u hu) (by omega) (by omega) HB10.out.size
  have hb12 : Below w7.heap.size w7 w12 := (HB10.out.alloc HB10.out.size _).grown hgr (by have := HB10.out.size; simp; omega) (fun q e => (HO10.out.lt q e).1)
  have hpw : PartRow w12 v12 (wideL zN kE PP) := by
    have h1 := Row.of_owns ho
    have e1 : (partsV [kE, zN] ++ partsV PP) ++ (#[.int .u8 26, .int .i64 0, .string ⟨#[122]⟩] : Array Value).toList = partsV (wideL zN kE PP) := by
      show (partsV [kE, zN] ++ partsV PP) ++ partsV [zN] = _
      rw [← partsV_append, ← partsV_append]; rfl
    have e2 : 2 + PP.length + 1 = (wideL zN kE PP).length := by unfold wideL; simp; omega
    rw [e1, e2] at h1
    exact h1
  obtain ⟨a12, c12, hv12, _⟩ : ∃ a c, v12 = .slice a (wideL zN kE PP).length c ∧ (wideL zN kE PP).length ≤ c := hpw.slice
  subst hv12
  have HPW := Lib.hid hpw
  have HBW := Lib.hid (bthen HB7.out hb12)
  have HR12 := Lib.hid (HR7.out.below hb12)
  have HOA12 := Lib.hid (HOA7.out.below hb12)
  have HOB12 := Lib.hid (HOB7.out.below hb12)
  clear ho hgr hb12 hpw HO10 HB10 HB7 HR7 HOA7 HOB7
  generalize (wideL zN kE PP).length = wn at *
  go_upto_region 7 with (at_builtin; refine wpList_append_run rfl _ _ _ _ hr rfl rfl rfl rfl ?_)
  clear hr
  obtain ⟨e0, e1, e2, e3, e4⟩ := HR12.out.cells
  have CC2 := Lib.hid (CC.out w12 HBW.out _ HPW.out)
  clear CC
  rw [HOK2.out, HBC.out] at CC2
  go_wp2_with fail
  refine CC2.out.mono ?_
  rintro e w13 ⟨ra, rc, rfl, hrc, hbr, hb13⟩
  rw [List.length_map] at hbr hrc ⊢
  have HOA13 := Lib.hid (HOA12.out.below hb13)
  have HOB13 := Lib.hid (HOB12.out.below hb13)
  have HOC := Lib.hid hbr
  have HB13 := Lib.hid (bthen HBW.out hb13)
  have hB16 : B.length ≤ 1048576 ∨ True := Or.inr trivial
  clear hbr hb13 CC2 HOA12 HOB12 HBW HR12 e0 e1 e2 e3 e4 HPW HPR hB16
  generalize (Value.bool (decide ((j : Int) < 0))) = b31
  generalize (Value.bool (decide (l.length ≤ j))) = b32
  generalize (Value.bool (decide ((j : Int) < 0) || decide (l.length ≤ j))) = b33
  go_wp2_with fail
  go_loopw [15] (fun hv wr => ∃ h : Nat, hv = .int .i64 (h : Int) ∧ h ≤ B.length ∧ Below w13.heap.size w13 wr) (fun hv _ => B.length - (intOf hv).toNat)
  case atStart => exact ⟨0, rfl, Nat.zero_le _, Below.refl _ _⟩
  case round =>
    obtain ⟨h, rfl, hh, hb⟩ := hrel
    have hBl := HBL.out
    have HBR := Lib.hid hb
    clear hb
    by_cases hlt : h < B.length
    · have hBA := HBA.out
      subst hBA
      obtain ⟨b1, o1, rfl, hx1, _, _, hc1⟩ := BindRow.at HOA13.out HBR.out (show 0 < (B.map (shiftB j)).length by rw [List.length_map]; omega)
      obtain ⟨b2, o2, rfl, hx2, _, _, hc2⟩ := BindRow.at HOB13.out HBR.out (show 0 < B.length by omega)
      obtain ⟨b3, o3, rfl, hx3, _, _, hc3⟩ := BindRow.at HOC.out HBR.out (show 0 < (B.map (shiftB 2)).length by rw [List.length_map]; omega)
      obtain ⟨ca0, ca1, ca2⟩ := hc1 h (by rw [List.length_map]; exact hlt)
      obtain ⟨cb0, cb1, cb2⟩ := hc2 h hlt
      obtain ⟨cc0, cc1, cc2⟩ := hc3 h (by rw [List.length_map]; exact hlt)
      rw [List.getElem_map] at ca0 ca1 ca2 cc0 cc1 cc2
      obtain ⟨⟨f0, f1⟩, t0, t1⟩ := HBS.out _ (List.getElem_mem hlt)
      clear hx1 hx2 hx3 hc1 hc2 hc3
      unfold shiftB at ca0 ca1 ca2 cc0 cc1 cc2
      generalize B[h] = bb at *
      obtain ⟨bn, bf, bt⟩ := bb
      simp only [] at ca0 ca1 ca2 cb0 cb1 cb2 cc0 cc1 cc2 f0 f1 t0 t1
      have hh0 : (0 : Int) ≤ (h : Int) := by omega
      have hhl : (h : Int) < B.length := by omega
      have hha : (h : Int) < qc := by omega
      have hhb : (h : Int) < pc := by omega
      have hhc : (h : Int) < rc := by omega
      have hw1 : IntKind.i64.wrap (bf + (j : Int) - (j : Int)) = bf := by rw [IntKind.wrap_i64]; omega
      have hw2 : IntKind.i64.wrap (bt + (j : Int) - (j : Int)) = bt := by rw [IntKind.wrap_i64]; omega
      have hw5 : IntKind.i64.wrap bf = bf := by rw [IntKind.wrap_i64]; omega
      have hw6 : IntKind.i64.wrap bt = bt := by rw [IntKind.wrap_i64]; omega
      rw [show ((2 : Nat) : Int) = 2 from rfl] at cc1 cc2
      have hw3 : IntKind.i64.wrap (bf + 2) = bf + 2 := by rw [IntKind.wrap_i64]; omega
      have hw4 : IntKind.i64.wrap (bt + 2) = bt + 2 := by rw [IntKind.wrap_i64]; omega
      have hl1 : b1 < wr.heap.size := cell_lt' ca0
      have HK : RowKit.Hid (∀ W, Below wr.drew.heap.size wr.drew W → W.cell? ⟨b1, o1 + h * 3, none⟩ = some (.string bn) ∧ W.cell? ⟨b1, o1 + h * 3 + 1, none⟩ = some (.int .i64 (bf + (j : Int))) ∧ W.cell? ⟨b1, o1 + h * 3 + 2, none⟩ = some (.int .i64 (bt + (j : Int)))) := Lib.hid fun W hb =>
        ⟨(hb.cell (p := ⟨b1, o1 + h * 3, none⟩) hl1).trans ca0, (hb.cell (p := ⟨b1, o1 + h * 3 + 1, none⟩) hl1).trans ca1, (hb.cell (p := ⟨b1, o1 + h * 3 + 2, none⟩) hl1).trans ca2⟩
      go_upto_region 13 with (fail)
      go_region_held3 (fun W => W.cell? ⟨b1, o1 + h * 3, none⟩ = some (.string bn) ∧ W.cell? ⟨b1, o1 + h * 3 + 1, none⟩ = some (.int .i64 (bf + (j : Int))) ∧ W.cell? ⟨b1, o1 + h * 3 + 2, none⟩ = some (.int .i64 (bt + (j : Int)))) (first | exact HK.out _ (Below.refl _ _) | exact HK.out _ ((Below.refl _ _).alloc (Nat.le_refl _) _) | exact HK.out _ (((Below.refl _ _).alloc (Nat.le_refl _) _).setCell (by simp) _) | exact HK.out _ ((((((Below.refl _ _).alloc (Nat.le_refl _) _).setCell (by simp) _).setCell (by simp) _).setCell (by simp) _))) (fail)
      have hB14 : Below wr.heap.size wr (wr.alloc (.cells #[.string bn, .int .i64 bf, .int .i64 bt] 39)).drew := ((Below.refl _ _).alloc (Nat.le_refl _) _).drew
      have hx : (wr.alloc (.cells #[.string bn, .int .i64 bf, .int .i64 bt] 39)).drew.heap[wr.heap.size]? = some (.cells #[.string bn, .int .i64 bf, .int .i64 bt] 39 (0, 0)) := heap_alloc_new _ _
      have hB14' := (HBR.out.alloc HBR.out.size (.cells #[.string bn, .int .i64 bf, .int .i64 bt] 39)).drew
      have HKB : RowKit.Hid (∀ W, Below wr.heap.size wr W → W.cell? ⟨b1, o1 + h * 3, none⟩ = some (.string bn) ∧ (W.cell? ⟨b2, o2 + h * 3, none⟩ = some (.string bn) ∧ W.cell? ⟨b2, o2 + h * 3 + 1, none⟩ = some (.int .i64 bf) ∧ W.cell? ⟨b2, o2 + h * 3 + 2, none⟩ = some (.int .i64 bt)) ∧ (W.cell? ⟨b3, o3 + h * 3, none⟩ = some (.string bn) ∧ W.cell? ⟨b3, o3 + h * 3 + 1, none⟩ = some (.int .i64 (bf + 2)) ∧ W.cell? ⟨b3, o3 + h * 3 + 2, none⟩ = some (.int .i64 (bt + 2)))) := Lib.hid fun W hb =>
        ⟨(hb.cell (p := ⟨b1, o1 + h * 3, none⟩) hl1).trans ca0, ⟨(hb.cell (p := ⟨b2, o2 + h * 3, none⟩) (cell_lt' cb0)).trans cb0, (hb.cell (p := ⟨b2, o2 + h * 3 + 1, none⟩) (cell_lt' cb0)).trans cb1, (hb.cell (p := ⟨b2, o2 + h * 3 + 2, none⟩) (cell_lt' cb0)).trans cb2⟩, ⟨(hb.cell (p := ⟨b3, o3 + h * 3, none⟩) (cell_lt' cc0)).trans cc0, (hb.cell (p := ⟨b3, o3 + h * 3 + 1, none⟩) (cell_lt' cc0)).trans cc1, (hb.cell (p := ⟨b3, o3 + h * 3 + 2, none⟩) (cell_lt' cc0)).trans cc2⟩⟩
      have HB14 := Lib.hid hB14
      have HB14' := Lib.hid hB14'
      have HX := Lib.hid hx
      clear hB14 hB14' hx ca0 ca1 ca2 cb0 cb1 cb2 cc0 cc1 cc2 hl1 HK
      generalize (wr.alloc (.cells #[.string bn, .int .i64 bf, .int .i64 bt] 39)).drew = w14 at *
      generalize hgx : wr.heap.size = gx at *
      have HGX := Lib.hid hgx
      clear hgx
      go_upto_region 14 with (fail)
      have HK2 : RowKit.Hid (∀ W, Below w14.heap.size w14 W → W.cell? ⟨b1, o1 + h * 3, none⟩ = some (.string bn) ∧ W.cell? ⟨gx, 1, none⟩ = some (.int .i64 bf) ∧ W.cell? ⟨gx, 2, none⟩ = some (.int .i64 bt)) := Lib.hid fun W hb => by
        have h1 := keeps hb HX.out
        refine ⟨(HKB.out W (HB14.out.trans (hb.mono (by have := keeps_lt HX.out; omega)))).1, ?_, ?_⟩
        · simp [World.cell?, h1]
        · simp [World.cell?, h1]
      have HK3 := Lib.hid (fun W (hb : Below w14.drew.heap.size w14.drew W) => HK2.out W ((Below.refl _ _).drew.trans (hb.mono (Nat.le_refl _))))
      go_region_held3 (fun W => W.cell? ⟨b1, o1 + h * 3, none⟩ = some (.string bn) ∧ W.cell? ⟨gx, 1, none⟩ = some (.int .i64 bf) ∧ W.cell? ⟨gx, 2, none⟩ = some (.int .i64 bt)) (first | exact HK3.out _ (Below.refl _ _) | exact HK3.out _ ((Below.refl _ _).alloc (Nat.le_refl _) _) | exact HK3.out _ (((Below.refl _ _).alloc (Nat.le_refl _) _).setCell (by simp) _) | exact HK3.out _ ((((((Below.refl _ _).alloc (Nat.le_refl _) _).setCell (by simp) _).setCell (by simp) _).setCell (by simp) _))) (fail)
      have hy : (w14.alloc (.cells #[.string bn, .int .i64 (bf + 2), .int .i64 (bt + 2)] 39)).drew.heap[w14.heap.size]? = some (.cells #[.string bn, .int .i64 (bf + 2), .int .i64 (bt + 2)] 39 (0, 0)) := heap_alloc_new _ _
      have hb15 : Below w14.heap.size w14 (w14.alloc (.cells #[.string bn, .int .i64 (bf + 2), .int .i64 (bt + 2)] 39)).drew := ((Below.refl _ _).alloc (Nat.le_refl _) _).drew
      have hx := keeps hb15 HX.out
      obtain ⟨_, ⟨cb0, cb1, cb2⟩, cc0, cc1, cc2⟩ := HKB.out _ (HB14.out.trans (hb15.mono (by have := keeps_lt HX.out; omega)))
      have HB15 := Lib.hid (bthen HB14'.out hb15)
      clear hb15 HK2 HK3 HKB HB14 HB14' HX
      generalize (w14.alloc (.cells #[.string bn, .int .i64 (bf + 2), .int .i64 (bt + 2)] 39)).drew = w15 at *
      generalize w14.heap.size = gy at *
      have x0 : w15.cell? ⟨gx, 0, none⟩ = some (.string bn) ∧ w15.cell? ⟨gx, 1, none⟩ = some (.int .i64 bf) ∧ w15.cell? ⟨gx, 2, none⟩ = some (.int .i64 bt) := by simp [World.cell?, hx]
      have y0 : w15.cell? ⟨gy, 0, none⟩ = some (.string bn) ∧ w15.cell? ⟨gy, 1, none⟩ = some (.int .i64 (bf + 2)) ∧ w15.cell? ⟨gy, 2, none⟩ = some (.int .i64 (bt + 2)) := by simp [World.cell?, hy]
      obtain ⟨x0, x1, x2⟩ := x0
      obtain ⟨y0, y1, y2⟩ := y0
      clear hx hy
      go_upto_region 15 with (fail)
      go_quiet (fail)
      have HX := Lib.hid (drewB HB15.out nq)
      go_wp2_with fail
      exact ⟨⟨h + 1, by push_cast; rfl, hlt, HX.out⟩, by simp only [intOf]; omega⟩
    · obtain rfl : h = B.length := by omega
      have HBZ := Lib.hid (bthen HB13.out HBR.out)
      go_wp2_with fail
      refine (CF.out wr HBZ.out).mono ?_
      rintro e wZ ⟨rfl, hbZ⟩
      have HX := Lib.hid (HQ.out wZ (bthen HBZ.out hbZ))
      clear hbZ
      go_wp2_with fail
      exact HX.out
end Go.Proofs.YtbhicblkgjgenaaDoor
