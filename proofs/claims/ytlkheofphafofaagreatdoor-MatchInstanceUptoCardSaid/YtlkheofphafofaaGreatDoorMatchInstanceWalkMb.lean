/- The statement MatchInstance, walked: the call returns true. -/
import Derived.Test.YtlkheofphafofaaGreatDoorRefInstMb
import Derived.Test.YtlkheofphafofaaGreatDoorShiftBMb
import Derived.Test.YtlkheofphafofaaGreatDoorRefChkBMb
import Derived.Test.YtlkheofphafofaaGreatDoorRuleCMb
import Derived.Test.YtlkheofphafofaaGreatDoorRefMAMb
import Derived.Test.YtlkheofphafofaaGreatDoorTermSameMb
import Derived.BigQuiet
import Derived.Deep.QuietTactic
namespace Go.Proofs.YtlkheofphafofaaGreatDoor
set_option linter.all false
attribute [local irreducible] Calls
attribute [local irreducible] wpStill
open Go.RowKit

def miRel (n : Nat) (w5 : World) (hv : Value) (wr : World) : Prop := ∃ h : Nat, hv = .int .i64 (h : Int) ∧ h ≤ n ∧ Below w5.heap.size w5 wr
set_option maxRecDepth 100000 in
set_option maxHeartbeats 32000000 in
theorem MatchInstance_walk (w : World) (x : RuleX) (hin : RuleIn w x.1 x.2.1 x.2.2.1 x.2.2.2) (hs : SmallR x.1) (vl : Value) (l : List Prt) (hr : PartRow w vl l) (hl : SmallL l) (i : Int) (hH : HeldM w) :
  Calls Tryz.prog 5 #[ruleAgg x.1 x.2.1 x.2.2.1 x.2.2.2, vl, .int .i64 i] w (AnswersM w) := by
 obtain ⟨r, vh, vf, vb⟩ := x
 simp only [] at hin hs ⊢
 have HQ : RowKit.Hid (∀ w', Below w.heap.size w w' → AnswersM w (.returned (.bool true)) w') := Lib.hid fun w' h => AnswersM.mk h
 generalize AnswersM w = Q at *
 have CF := Lib.hid (fun w' (hb : Below w.heap.size w w') => law17_fixed w' (hH.T.below hb) (hH.M.below hb))
 obtain ⟨ah, ch, rfl, hch⟩ := Row.shape hin.H
 obtain ⟨af, cf, rfl, hcf⟩ := hin.F.slice
 obtain ⟨ab, cb, rfl, hcb⟩ := hin.B.slice
 obtain ⟨al, cl, rfl, hcl⟩ := hr.slice
 have HIN := Lib.hid hin
 have HS := Lib.hid hs
 have HR := Lib.hid hr
 have HL := Lib.hid hl
 have HH := Lib.hid hH
 have hll := hl.1
 have HR1 : RowKit.Hid (RK (w.alloc (.cells #[.string r.nm, .int .u8 (r.goal : Int), .slice ah r.holes.length ch, .slice af r.fnd.length cf, .slice ab r.by'.length cb] 25)) w.heap.size r.nm r.goal (.slice ah r.holes.length ch) (.slice af r.fnd.length cf) (.slice ab r.by'.length cb)) := Lib.hid (heap_alloc_new _ _)
 have HB1 : RowKit.Hid (Below w.heap.size w (w.alloc (.cells #[.string r.nm, .int .u8 (r.goal : Int), .slice ah r.holes.length ch, .slice af r.fnd.length cf, .slice ab r.by'.length cb] 25))) := Lib.hid ((Below.refl _ _).alloc (Nat.le_refl _) _)
 clear hin hs hr hl hH
 unfold ruleAgg
 go_enter Tryz.func5, Tryz.ntmps5
 go_upto_region 1 with (fail)
 generalize w.alloc (.cells #[.string r.nm, .int .u8 (r.goal : Int), .slice ah r.holes.length ch, .slice af r.fnd.length cf, .slice ab r.by'.length cb] 25) = W1 at *
 obtain ⟨e0, e1, e2, e3, e4⟩ := HR1.out.cells
 by_cases hbig : 2000 < l.length
 ·have h1' : (2000 : Int) < l.length := by omega
  go_wp2_with fail
  refine (CF.out W1 HB1.out).mono ?_
  rintro e wZ ⟨rfl, hbZ⟩
  have HX := Lib.hid (HQ.out wZ (bthen HB1.out hbZ))
  clear hbZ
  go_wp2_with fail
  exact HX.out
 have h1' : ¬ (2000 : Int) < l.length := by omega
 have CG := Lib.hid (ref_Great [(r, .slice ah r.holes.length ch, .slice af r.fnd.length cf, .slice ab r.by'.length cb)] (fun x hx => by rw [List.mem_singleton] at hx; rw [hx]; exact HS.out) (by simp) _ 800 _ (lit_rule W1 (r, .slice ah r.holes.length ch, .slice af r.fnd.length cf, .slice ab r.by'.length cb) (HIN.out.below HB1.out)))
 have HB2 := Lib.hid (HB1.out.alloc HB1.out.size (.cells (ruleV (r, .slice ah r.holes.length ch, .slice af r.fnd.length cf, .slice ab r.by'.length cb)).toArray 25))
 have HR2 := Lib.hid (HR1.out.below ((Below.refl _ _).alloc (Nat.le_refl _) (.cells (ruleV (r, .slice ah r.holes.length ch, .slice af r.fnd.length cf, .slice ab r.by'.length cb)).toArray 25)))
 unfold ruleV at CG HB2 HR2
 simp only [] at CG HB2 HR2
 clear hbig
 go_wp2_with fail
 refine CG.out.mono ?_
 intro e w3 h3
 obtain ⟨y, rfl, hb3⟩ := h3.out
 have HB3 := Lib.hid (bthen HB2.out hb3)
 have HR3 := Lib.hid (HR2.out.below hb3)
 clear h3 hb3 CG HB2 HR2 e0 e1 e2 e3 e4 HB1 HR1
 obtain ⟨e0, e1, e2, e3, e4⟩ := HR3.out.cells
 cases y with
 | true =>
  go_wp2_with fail
  refine (CF.out w3 HB3.out).mono ?_
  rintro e wZ ⟨rfl, hbZ⟩
  have HX := Lib.hid (HQ.out wZ (bthen HB3.out hbZ))
  clear hbZ
  go_wp2_with fail
  exact HX.out
 | false =>
 have CY := Lib.hid (ref_Ways17 r HS.out.h.1 _ _ _ l hll _ w3 (HIN.out.below HB3.out) (HR.out.below HB3.out))
 unfold ruleAgg at CY
 go_wp2_with fail
 refine CY.out.mono ?_
 intro e w4 h4
 obtain ⟨z, rfl, hb4⟩ := h4.out
 have HB4 := Lib.hid (bthen HB3.out hb4)
 have HR4 := Lib.hid (HR3.out.below hb4)
 clear h4 hb4 CY HB3 HR3 e0 e1 e2 e3 e4
 obtain ⟨e0, e1, e2, e3, e4⟩ := HR4.out.cells
 by_cases hz : 100000 < z
 ·go_wp2_with fail
  refine (CF.out w4 HB4.out).mono ?_
  rintro e wZ ⟨rfl, hbZ⟩
  have HX := Lib.hid (HQ.out wZ (bthen HB4.out hbZ))
  clear hbZ
  go_wp2_with fail
  exact HX.out
 have CA := Lib.hid (at_flat r HS.out _ _ _ l HL.out _ i w4 (HH.out.T.below HB4.out) (HH.out.M.below HB4.out) (HIN.out.below HB4.out) (HR.out.below HB4.out))
 unfold ruleAgg at CA
 unfold FlatP at CA
 cases ho : atZ r l i with
 | none =>
  rw [ho] at CA
  simp only [bndO, List.length_nil, Option.isSome_none] at CA
  clear ho
  go_wp2_with fail
  refine CA.out.mono ?_
  rintro e w5 ⟨qa, qc, rfl, hqc, hbr, hb5⟩
  have HB5 := Lib.hid (bthen HB4.out hb5)
  clear hbr hb5 CA HB4 HR4 e0 e1 e2 e3 e4
  go_wp2_with fail
  refine (CF.out w5 HB5.out).mono ?_
  rintro e wZ ⟨rfl, hbZ⟩
  have HX := Lib.hid (HQ.out wZ (bthen HB5.out hbZ))
  clear hbZ
  go_wp2_with fail
  exact HX.out
 | some τ =>
 obtain ⟨hz0, hw0, hi0, hil, _, _, _⟩ := atZ_inv ho
 obtain ⟨j, rfl⟩ : ∃ j : Nat, i = (j : Int) := ⟨i.toNat, by omega⟩
 have hj : j < l.length := by omega
 have hbl := (binds_small ho hll).1
 have hfi := found_inst ho
 rw [show ((j : Int)).toNat = j by omega] at hfi
 have HFI := Lib.hid hfi
 have HFH := Lib.hid (fun k (hk : k < r.holes.length) => found_hole ho hk)
 have HZ0 := Lib.hid hz0
 have HW0 := Lib.hid hw0
 rw [ho] at CA
 simp only [bndO, Option.isSome_some] at CA
 have hg := endB_gt (well_rows hw0) hj
 have hpl : (piece l j (endB l j)).length = endB l j - j := piece_len (by omega) hg.2
 obtain ⟨sp, sc, hsl, hpr⟩ := slice_piece w _ l HR.out j (endB l j) (by omega) hg.2
 have HPR := Lib.hid hpr
 have HPL := Lib.hid hpl
 have CE := Lib.hid (fun W (hb : Below w.heap.size w W) => ref_End11 l (by omega) _ j (by omega) W (HR.out.below hb))
 rw [endR_end (well_rows hw0) hj] at CE
 simp only [endI] at CE
 clear hfi hz0 hw0 hil ho hpr hpl
 generalize bindsOf r.holes τ = B at *
 rw [hbl] at CA
 have HBL := Lib.hid hbl
 clear hbl
 have hhl := HS.out.h.1
 have hjn : ¬ (j : Int) < 0 := by omega
 have hjl : (j : Int) < l.length := by omega
 have hjl2 : ¬ (l.length : Int) ≤ (j : Int) := by omega
 have hjl3 : ¬ l.length ≤ j := by omega
 have hez : (j : Int) ≤ (endB l j : Int) := by omega
 have hel : (endB l j : Int) ≤ l.length := by omega
 have hj0 : (0 : Int) ≤ (j : Int) := by omega
 generalize hzz : endB l j = zz at *
 have HZZ := Lib.hid hzz
 clear hzz hi0 hg
 go_wp2_with fail
 refine CA.out.mono ?_
 rintro e w5 ⟨qa, qc, rfl, hqc, hbr, hb5⟩
 have HB5 := Lib.hid (bthen HB4.out hb5)
 have HR5 := Lib.hid (HR4.out.below hb5)
 have HO5 := Lib.hid hbr
 clear hbr hb5 CA HB4 HR4 e0 e1 e2 e3 e4
 obtain ⟨e0, e1, e2, e3, e4⟩ := HR5.out.cells
 have CC := Lib.hid (rule_Check r HS.out _ _ _ w5 (HH.out.T.below HB5.out) (HH.out.M.below HB5.out) (HIN.out.below HB5.out))
 unfold ruleAgg at CC
 rw [HZ0.out] at CC
 go_wp2_with fail
 refine CC.out.mono ?_
 rintro e w6 ⟨rfl, hb6⟩
 have HB6 := Lib.hid (bthen HB5.out hb6)
 have HR6 := Lib.hid (HR5.out.below hb6)
 have HO6 := Lib.hid (HO5.out.below hb6)
 clear hb6 CC HB5 HR5 HO5 e0 e1 e2 e3 e4
 have CC := Lib.hid (term_Well l (by omega) _ w6 (HR.out.below HB6.out))
 rw [HW0.out] at CC
 go_wp2_with fail
 refine CC.out.mono ?_
 rintro e w7 ⟨rfl, hb7⟩
 have HB7 := Lib.hid (bthen HB6.out hb7)
 have HR7 := Lib.hid (HR6.out.below hb7)
 have HO7 := Lib.hid (HO6.out.below hb7)
 clear hb7 CC HB6 HR6 HO6
 have CC := Lib.hid (ref_Well11 l (by omega) _ w7 (HR.out.below HB7.out))
 rw [HW0.out] at CC
 go_wp2_with fail
 refine CC.out.mono ?_
 rintro e w7' ⟨rfl, rfl⟩
 clear CC
 obtain ⟨e0, e1, e2, e3, e4⟩ := HR7.out.cells
 have CC := Lib.hid (ref_Check16 r HS.out _ _ _ w7 (HIN.out.below HB7.out))
 unfold ruleAgg at CC
 rw [HZ0.out] at CC
 go_wp2_with fail
 refine CC.out.mono ?_
 rintro e w8 ⟨rfl, hb8⟩
 have HB8 := Lib.hid (bthen HB7.out hb8)
 have HR8 := Lib.hid (HR7.out.below hb8)
 have HO8 := Lib.hid (HO7.out.below hb8)
 clear hb8 CC HB7 HR7 HO7 e0 e1 e2 e3 e4
 go_wp2_with fail
 refine (CE.out w8 HB8.out).mono ?_
 rintro e w8' ⟨rfl, rfl⟩
 clear CE
 go_wp2_with fail
 go_loopw [10] (fun hv wr => miRel r.holes.length w8 hv wr) (fun hv _ => r.holes.length - (intOf hv).toNat)
 case atStart => exact ⟨0, rfl, Nat.zero_le _, Below.refl _ _⟩
 case round =>
  obtain ⟨h, rfl, hh, hb⟩ := hrel
  have HBR := Lib.hid hb
  clear hb
  obtain ⟨e0, e1, e2, e3, e4⟩ := (HR8.out.below HBR.out).cells
  by_cases hlt : h < r.holes.length
  ·obtain ⟨q1, q2, nn, ⟨hb', eb⟩, g1, g2, g3, g4, g5⟩ := HFH.out h hlt
   obtain ⟨bb, bo, rfl, y1, y2, y3, y4⟩ := HO8.out.at HBR.out (show 0 < B.length by omega)
   clear y1 y2 y3 y4
   have HCB : RowKit.Hid (∀ W, Below w8.heap.size w8 W → W.cell? ⟨bb, bo + h * 3, none⟩ = some (.string (r.holes[h]).1) ∧ W.cell? ⟨bb, bo + h * 3 + 1, none⟩ = some (.int .i64 (q1 : Int)) ∧ W.cell? ⟨bb, bo + h * 3 + 2, none⟩ = some (.int .i64 (q2 : Int))) := Lib.hid fun W hb => by
    obtain ⟨b2, o2, e', _, _, _, hcc⟩ := HO8.out.at hb (show 0 < B.length by omega)
    simp only [Option.some.injEq, Addr.mk.injEq, and_true] at e'
    obtain ⟨rfl, rfl⟩ := e'
    have := hcc h hb'
    rw [eb] at this
    exact this
   obtain ⟨kb, ko, rfl, y1, y2, y3, y4⟩ := HIN.out.H.at (bthen HB8.out HBR.out) (show 0 < r.holes.length by omega)
   clear y1 y2 y3 y4
   have HCH : RowKit.Hid (∀ W, Below w8.heap.size w8 W → W.cell? ⟨kb, ko + h * 2, none⟩ = some (.string (r.holes[h]).1) ∧ W.cell? ⟨kb, ko + h * 2 + 1, none⟩ = some (.int .u8 ((r.holes[h]).2 : Int))) := Lib.hid fun W hb => by
    obtain ⟨b2, o2, e', _, _, _, hcc⟩ := HIN.out.H.at (bthen HB8.out hb) (show 0 < r.holes.length by omega)
    simp only [Option.some.injEq, Addr.mk.injEq, and_true] at e'
    obtain ⟨rfl, rfl⟩ := e'
    exact hcc h hlt
   obtain ⟨lb, lo, rfl, y1, y2, y3, y4⟩ := HR.out.at (bthen HB8.out HBR.out) (show 0 < l.length by omega)
   clear y1 y2 y3 y4
   have HE2 : RowKit.Hid (∀ W, Below w8.heap.size w8 W → W.cell? ⟨w.heap.size, 2, none⟩ = some (.slice (some ⟨kb, ko, none⟩) r.holes.length ch)) := Lib.hid fun W hb => (HR8.out.below hb).cells.2.2.1
   have hhk := (holeB_inv hlt ((ruleZ_inv HZ0.out).2.2.2.2.2.2.2 h hlt)).2.2.1
   obtain ⟨p2, c2, hs2, hr2⟩ := slice_piece w _ l HR.out q1 q2 g2 (by omega)
   have hpl2 : (piece l q1 q2).length ≤ 1048576 := by unfold piece; rw [List.length_take, List.length_drop]; omega
   have CT := Lib.hid (fun W (hb : Below w8.heap.size w8 W) => ref_Trees11 (piece l q1 q2) (by omega) _ W (hr2.below (bthen HB8.out hb)))
   rw [g4] at CT
   obtain ⟨b0, b1, b2⟩ := HCB.out wr HBR.out
   obtain ⟨k0, k1⟩ := HCH.out wr HBR.out
   have HG5 := Lib.hid g5
   have HKK := Lib.hid hhk
   have hh0 : (0 : Int) ≤ (h : Int) := by omega
   have hhl' : (h : Int) < r.holes.length := by omega
   have hhb : (h : Int) < (qc : Int) := by omega
   have hhc : (h : Int) < (ch : Int) := by omega
   have f1 : ¬ (q1 : Int) < (j : Int) := by omega
   have f2 : ¬ (q2 : Int) < (q1 : Int) := by omega
   have f3 : ¬ (zz : Int) < (q2 : Int) := by omega
   have f4 : (q1 : Int) ≤ (q2 : Int) := by omega
   have f5 : (q2 : Int) ≤ l.length := by omega
   have f6 : (0 : Int) ≤ (q1 : Int) := by omega
   have hwh : IntKind.i64.wrap ((h : Int) + 1) = (h : Int) + 1 := by rw [IntKind.wrap_i64]; omega
   have HX : RowKit.Hid (∀ W, Below w8.heap.size w8 W → miRel r.holes.length w8 (.int .i64 ((h : Int) + 1)) W) := Lib.hid fun W hb => ⟨h + 1, by push_cast; rfl, hlt, hb⟩
   have HMS : RowKit.Hid (r.holes.length - (h + 1) < r.holes.length - h) := Lib.hid (by omega)
   clear g1 g2 g3 g4 g5 hb' eb hr2 hpl2 hhk
   generalize (r.holes[h]).1 = kn at *
   generalize (r.holes[h]).2 = kk at *
   clear hlt
   have s1 : (kn.toList != kn.toList) = false := by rw [bne_eq_false_iff_eq]
   go_upto_region 12 with (fail)
   go_quiet (fail)
   have HBQ := Lib.hid (drewB HBR.out nq)
   clear b0 b1 b2 k0 k1 e0 e1 e2 e3 e4 s1
   generalize wr.drewN nq = wq at *
   obtain ⟨b0, b1, b2⟩ := HCB.out wq HBQ.out
   have CT1 := Lib.hid (CT.out wq.drew HBQ.out.drew)
   go_upto_region 14 with (fail)
   go_still_tail 12, (by kernel_rfl)
   go_wp2_with fail
   refine CT1.out.mono ?_
   rintro e w9 ⟨rfl, rfl⟩
   have HB9 := Lib.hid HBQ.out.drew
   clear b0 b1 b2 CT1 CT hs2
   generalize wq.drew = w9 at *
   go_upto_region 15 with (fail)
   have HBD := Lib.hid HB9.out.drew
   have CSV := Lib.hid (fun W => ref_Several kn kk W)
   have HS1 : RowKit.Hid (∀ W, Below w8.heap.size w8 W → W.cell? ⟨w.heap.size, 2, none⟩ = some (.slice (some ⟨kb, ko, none⟩) r.holes.length ch) ∧ W.cell? ⟨kb, ko + h * 2, none⟩ = some (.string kn) ∧ W.cell? ⟨kb, ko + h * 2 + 1, none⟩ = some (.int .u8 (kk : Int))) := Lib.hid fun W hb => ⟨HE2.out W hb, (HCH.out W hb).1, (HCH.out W hb).2⟩
   have hnn : ¬ (nn : Int) < 0 := by omega
   cases hsev : isSev kk with
   | true =>
    rw [hsev] at CSV
    clear hsev HG5
    refine wp_region_noPanic ?_
    refine wp_region_held_drew (S := fun W => W.cell? ⟨w.heap.size, 2, none⟩ = some (.slice (some ⟨kb, ko, none⟩) r.holes.length ch) ∧ W.cell? ⟨kb, ko + h * 2, none⟩ = some (.string kn) ∧ W.cell? ⟨kb, ko + h * 2 + 1, none⟩ = some (.int .u8 (kk : Int))) (by kernel_rfl) (HS1.out _ HBD.out) (fun hHeldA => ?_)
    refine wpAnyH_take (i := 0) (oi := ⟨some 145, _, _, _, _, _⟩) (v := ?vA0) rfl (by kernel_rfl) (by kernel_rfl) (by kernel_rfl) (fun _ _ _ h => h) (Or.inl ⟨by kernel_rfl, ?hyA0⟩) hHeldA ?restA0
    case hyA0 => intro w hSw; (try dsimp only at hSw); go_simp; (try with_reducible rfl)
    (try simp only [Act.put, List.setIfInBounds_toArray, List.set_cons_zero, List.set_cons_succ])
    refine wpAnyH_take (i := 1) (oi := ⟨some 146, _, _, _, _, _⟩) (v := ?vA1) rfl (by kernel_rfl) (by kernel_rfl) (by kernel_rfl) (fun _ _ _ h => h) (Or.inl ⟨by kernel_rfl, ?hyA1⟩) hHeldA ?restA1
    case hyA1 => intro w hSw; (try dsimp only at hSw); go_simp; (try with_reducible rfl)
    (try simp only [Act.put, List.setIfInBounds_toArray, List.set_cons_zero, List.set_cons_succ])
    refine wpAnyH_take (i := 2) (oi := ⟨some 147, _, _, _, _, _⟩) (v := ?vA2) rfl (by kernel_rfl) (by kernel_rfl) (by kernel_rfl) (fun _ _ _ h => h) (Or.inl ⟨by kernel_rfl, ?hyA2⟩) hHeldA ?restA2
    case hyA2 => intro w hSw; (try dsimp only at hSw); go_simp; (try with_reducible rfl)
    (try simp only [Act.put, List.setIfInBounds_toArray, List.set_cons_zero, List.set_cons_succ])
    refine wpAnyH_take (i := 3) (oi := ⟨some 148, _, _, _, _, _⟩) (v := ?vA3) rfl (by kernel_rfl) (by kernel_rfl) (by kernel_rfl) (fun _ _ _ h => h) (Or.inl ⟨by kernel_rfl, ?hyA3⟩) hHeldA ?restA3
    case hyA3 => intro w hSw; (try dsimp only at hSw); go_simp; (try with_reducible rfl)
    (try simp only [Act.put, List.setIfInBounds_toArray, List.set_cons_zero, List.set_cons_succ])
    refine wpAnyH_take (i := 4) (oi := ⟨some 149, _, _, _, _, _⟩) (v := ?vA4) rfl (by kernel_rfl) (by kernel_rfl) (by kernel_rfl) (fun _ _ _ h => h) (Or.inl ⟨by kernel_rfl, ?hyA4⟩) hHeldA ?restA4
    case hyA4 => intro w hSw; (try dsimp only at hSw); go_simp; (try with_reducible rfl)
    (try simp only [Act.put, List.setIfInBounds_toArray, List.set_cons_zero, List.set_cons_succ])
    refine wpAnyH_take (i := 5) (oi := ⟨some 150, _, _, _, _, _⟩) (v := ?vA5) rfl (by kernel_rfl) (by kernel_rfl) (by kernel_rfl) (fun _ _ _ h => h) (Or.inl ⟨by kernel_rfl, ?hyA5⟩) hHeldA ?restA5
    case hyA5 => intro w hSw; (try dsimp only at hSw); go_simp; (try with_reducible rfl)
    (try simp only [Act.put, List.setIfInBounds_toArray, List.set_cons_zero, List.set_cons_succ])
    refine wpAnyH_take (i := 6) (oi := ⟨some 151, _, _, _, _, _⟩) (v := ?vA6) rfl (by kernel_rfl) (by kernel_rfl) (by kernel_rfl) (fun _ _ _ h => h) (Or.inl ⟨by kernel_rfl, ?hyA6⟩) hHeldA ?restA6
    case hyA6 => intro w hSw; (try dsimp only at hSw); go_simp; (try with_reducible rfl)
    (try simp only [Act.put, List.setIfInBounds_toArray, List.set_cons_zero, List.set_cons_succ])
    refine wpAnyH_take (i := 7) (oi := ⟨some 152, _, _, _, _, _⟩) (v := ?vA7) rfl (by kernel_rfl) (by kernel_rfl) (by kernel_rfl) (fun _ _ _ h => h) (Or.inl ⟨by kernel_rfl, ?hyA7⟩) hHeldA ?restA7
    case hyA7 => intro w hSw; (try dsimp only at hSw); go_simp; (try with_reducible rfl)
    (try simp only [Act.put, List.setIfInBounds_toArray, List.set_cons_zero, List.set_cons_succ])
    refine wpAnyH_ready (rs := [8]) (by kernel_rfl) (by simp) ?_
    refine AllReadyH.cons (o := _) rfl (fun K hK => ?_) AllReadyH.nil
    go_simp
    go_at_call 22
    refine (CSV.out _).mono ?_
    rintro e w10 ⟨rfl, hb10⟩
    (try dsimp only)
    refine hK.out _ _ (HS1.out _ (bthen HBD.out hb10)) (fun hHeldA_1 => ?_)
    clear hK K hHeldA
    (try simp only [Act.put, List.setIfInBounds_toArray, List.set_cons_zero, List.set_cons_succ])
    refine wpAnyH_take (i := 9) (oi := ⟨some 154, _, _, _, _, _⟩) (v := ?vA9) rfl (by kernel_rfl) (by kernel_rfl) (by kernel_rfl) (fun _ _ _ h => h) (Or.inl ⟨by kernel_rfl, ?hyA9⟩) hHeldA_1 ?restA9
    case hyA9 => intro w hSw; (try dsimp only at hSw); go_simp; (try with_reducible rfl)
    (try simp only [Act.put, List.setIfInBounds_toArray, List.set_cons_zero, List.set_cons_succ])
    refine wpAnyH_take (i := 10) (oi := ⟨some 155, _, _, _, _, _⟩) (v := ?vA10) rfl (by kernel_rfl) (by kernel_rfl) (by kernel_rfl) (fun _ _ _ h => h) (Or.inl ⟨by kernel_rfl, ?hyA10⟩) hHeldA_1 ?restA10
    case hyA10 => intro w hSw; (try dsimp only at hSw); go_simp; (try with_reducible rfl)
    (try simp only [Act.put, List.setIfInBounds_toArray, List.set_cons_zero, List.set_cons_succ])
    refine wpAnyH_take (i := 11) (oi := ⟨some 156, _, _, _, _, _⟩) (v := undef) rfl (by kernel_rfl) (by kernel_rfl) (by kernel_rfl) (fun _ _ _ h => h) (Or.inr ⟨by kernel_rfl, rfl⟩) hHeldA_1 ?_
    (try simp only [Act.put, List.setIfInBounds_toArray, List.set_cons_zero, List.set_cons_succ])
    refine wpAnyH_take (i := 12) (oi := ⟨some 157, _, _, _, _, _⟩) (v := undef) rfl (by kernel_rfl) (by kernel_rfl) (by kernel_rfl) (fun _ _ _ h => h) (Or.inr ⟨by kernel_rfl, rfl⟩) hHeldA_1 ?_
    (try simp only [Act.put, List.setIfInBounds_toArray, List.set_cons_zero, List.set_cons_succ])
    refine wpAnyH_take (i := 13) (oi := ⟨some 158, _, _, _, _, _⟩) (v := undef) rfl (by kernel_rfl) (by kernel_rfl) (by kernel_rfl) (fun _ _ _ h => h) (Or.inr ⟨by kernel_rfl, rfl⟩) hHeldA_1 ?_
    (try simp only [Act.put, List.setIfInBounds_toArray, List.set_cons_zero, List.set_cons_succ])
    refine wpAnyH_take (i := 14) (oi := ⟨some 159, _, _, _, _, _⟩) (v := undef) rfl (by kernel_rfl) (by kernel_rfl) (by kernel_rfl) (fun _ _ _ h => h) (Or.inr ⟨by kernel_rfl, rfl⟩) hHeldA_1 ?_
    (try simp only [Act.put, List.setIfInBounds_toArray, List.set_cons_zero, List.set_cons_succ])
    refine wpAnyH_take (i := 15) (oi := ⟨some 160, _, _, _, _, _⟩) (v := undef) rfl (by kernel_rfl) (by kernel_rfl) (by kernel_rfl) (fun _ _ _ h => h) (Or.inr ⟨by kernel_rfl, rfl⟩) hHeldA_1 ?_
    (try simp only [Act.put, List.setIfInBounds_toArray, List.set_cons_zero, List.set_cons_succ])
    refine wpAnyH_take (i := 16) (oi := ⟨some 161, _, _, _, _, _⟩) (v := undef) rfl (by kernel_rfl) (by kernel_rfl) (by kernel_rfl) (fun _ _ _ h => h) (Or.inr ⟨by kernel_rfl, rfl⟩) hHeldA_1 ?_
    (try simp only [Act.put, List.setIfInBounds_toArray, List.set_cons_zero, List.set_cons_succ])
    refine wpAnyH_take (i := 17) (oi := ⟨some 162, _, _, _, _, _⟩) (v := undef) rfl (by kernel_rfl) (by kernel_rfl) (by kernel_rfl) (fun _ _ _ h => h) (Or.inr ⟨by kernel_rfl, rfl⟩) hHeldA_1 ?_
    (try simp only [Act.put, List.setIfInBounds_toArray, List.set_cons_zero, List.set_cons_succ])
    refine wpAnyH_take (i := 18) (oi := ⟨some 163, _, _, _, _, _⟩) (v := undef) rfl (by kernel_rfl) (by kernel_rfl) (by kernel_rfl) (fun _ _ _ h => h) (Or.inr ⟨by kernel_rfl, rfl⟩) hHeldA_1 ?_
    (try simp only [Act.put, List.setIfInBounds_toArray, List.set_cons_zero, List.set_cons_succ])
    refine wpAnyH_take (i := 19) (oi := ⟨some 164, _, _, _, _, _⟩) (v := undef) rfl (by kernel_rfl) (by kernel_rfl) (by kernel_rfl) (fun _ _ _ h => h) (Or.inr ⟨by kernel_rfl, rfl⟩) hHeldA_1 ?_
    (try simp only [Act.put, List.setIfInBounds_toArray, List.set_cons_zero, List.set_cons_succ])
    refine wpAnyH_take (i := 20) (oi := ⟨some 165, _, _, _, _, _⟩) (v := undef) rfl (by kernel_rfl) (by kernel_rfl) (by kernel_rfl) (fun _ _ _ h => h) (Or.inr ⟨by kernel_rfl, rfl⟩) hHeldA_1 ?_
    (try simp only [Act.put, List.setIfInBounds_toArray, List.set_cons_zero, List.set_cons_succ])
    refine wpAnyH_take (i := 21) (oi := ⟨some 166, _, _, _, _, _⟩) (v := undef) rfl (by kernel_rfl) (by kernel_rfl) (by kernel_rfl) (fun _ _ _ h => h) (Or.inr ⟨by kernel_rfl, rfl⟩) hHeldA_1 ?_
    (try simp only [Act.put, List.setIfInBounds_toArray, List.set_cons_zero, List.set_cons_succ])
    refine wpAnyH_take (i := 22) (oi := ⟨some 167, _, _, _, _, _⟩) (v := undef) rfl (by kernel_rfl) (by kernel_rfl) (by kernel_rfl) (fun _ _ _ h => h) (Or.inr ⟨by kernel_rfl, rfl⟩) hHeldA_1 ?_
    (try simp only [Act.put, List.setIfInBounds_toArray, List.set_cons_zero, List.set_cons_succ])
    refine wpAnyH_take (i := 23) (oi := ⟨some 168, _, _, _, _, _⟩) (v := undef) rfl (by kernel_rfl) (by kernel_rfl) (by kernel_rfl) (fun _ _ _ h => h) (Or.inr ⟨by kernel_rfl, rfl⟩) hHeldA_1 ?_
    (try simp only [Act.put, List.setIfInBounds_toArray, List.set_cons_zero, List.set_cons_succ])
    refine wpAnyH_take (i := 24) (oi := ⟨some 169, _, _, _, _, _⟩) (v := undef) rfl (by kernel_rfl) (by kernel_rfl) (by kernel_rfl) (fun _ _ _ h => h) (Or.inr ⟨by kernel_rfl, rfl⟩) hHeldA_1 ?_
    (try simp only [Act.put, List.setIfInBounds_toArray, List.set_cons_zero, List.set_cons_succ])
    refine wpAnyH_take (i := 25) (oi := ⟨some 170, _, _, _, _, _⟩) (v := undef) rfl (by kernel_rfl) (by kernel_rfl) (by kernel_rfl) (fun _ _ _ h => h) (Or.inr ⟨by kernel_rfl, rfl⟩) hHeldA_1 ?_
    (try simp only [Act.put, List.setIfInBounds_toArray, List.set_cons_zero, List.set_cons_succ])
    refine wpAnyH_take (i := 26) (oi := ⟨some 171, _, _, _, _, _⟩) (v := undef) rfl (by kernel_rfl) (by kernel_rfl) (by kernel_rfl) (fun _ _ _ h => h) (Or.inr ⟨by kernel_rfl, rfl⟩) hHeldA_1 ?_
    (try simp only [Act.put, List.setIfInBounds_toArray, List.set_cons_zero, List.set_cons_succ])
    refine wpAnyH_take (i := 27) (oi := ⟨some 172, _, _, _, _, _⟩) (v := undef) rfl (by kernel_rfl) (by kernel_rfl) (by kernel_rfl) (fun _ _ _ h => h) (Or.inr ⟨by kernel_rfl, rfl⟩) hHeldA_1 ?_
    (try simp only [Act.put, List.setIfInBounds_toArray, List.set_cons_zero, List.set_cons_succ])
    refine wpAnyH_take (i := 28) (oi := ⟨some 173, _, _, _, _, _⟩) (v := undef) rfl (by kernel_rfl) (by kernel_rfl) (by kernel_rfl) (fun _ _ _ h => h) (Or.inr ⟨by kernel_rfl, rfl⟩) hHeldA_1 ?_
    (try simp only [Act.put, List.setIfInBounds_toArray, List.set_cons_zero, List.set_cons_succ])
    refine wpAnyH_ready (rs := [29]) (by kernel_rfl) (by simp) ?_
    refine AllReadyH.cons (o := _) rfl (fun K hK => ?_) AllReadyH.nil
    rw [if_neg]
    rotate_left
    ·exact fun h => Bool.noConfusion (h.symm.trans (by kernel_rfl : _ = false))
    refine hK.out _ _ hHeldA_1 (fun hHeldA_2 => ?_)
    clear hK K hHeldA_1
    (try simp only [Act.put, List.setIfInBounds_toArray, List.set_cons_zero, List.set_cons_succ])
    refine wpAnyH_take (i := 30) (oi := ⟨some 175, _, _, _, _, _⟩) (v := undef) rfl (by kernel_rfl) (by kernel_rfl) (by kernel_rfl) (fun _ _ _ h => h) (Or.inr ⟨by kernel_rfl, rfl⟩) hHeldA_2 ?_
    (try simp only [Act.put, List.setIfInBounds_toArray, List.set_cons_zero, List.set_cons_succ])
    refine wpAnyH_take (i := 31) (oi := ⟨some 176, _, _, _, _, _⟩) (v := undef) rfl (by kernel_rfl) (by kernel_rfl) (by kernel_rfl) (fun _ _ _ h => h) (Or.inr ⟨by kernel_rfl, rfl⟩) hHeldA_2 ?_
    (try simp only [Act.put, List.setIfInBounds_toArray, List.set_cons_zero, List.set_cons_succ])
    refine wpAnyH_take (i := 32) (oi := ⟨some 177, _, _, _, _, _⟩) (v := ?vA32) rfl (by kernel_rfl) (by kernel_rfl) (by kernel_rfl) (fun _ _ _ h => h) (Or.inl ⟨by kernel_rfl, ?hyA32⟩) hHeldA_2 ?restA32
    case hyA32 => intro w hSw; (try dsimp only at hSw); go_simp; (try with_reducible rfl)
    (try simp only [Act.put, List.setIfInBounds_toArray, List.set_cons_zero, List.set_cons_succ])
    refine wpAnyH_take (i := 33) (oi := ⟨some 178, _, _, _, _, _⟩) (v := ?vA33) rfl (by kernel_rfl) (by kernel_rfl) (by kernel_rfl) (fun _ _ _ h => h) (Or.inl ⟨by kernel_rfl, ?hyA33⟩) hHeldA_2 ?restA33
    case hyA33 => intro w hSw; (try dsimp only at hSw); go_simp; (try with_reducible rfl)
    (try simp only [Act.put, List.setIfInBounds_toArray, List.set_cons_zero, List.set_cons_succ])
    refine wpAnyH_done (by kernel_rfl) ?_ _
    refine NoPanic.normal ?_
    go_wp2_with fail
    exact ⟨HX.out _ (bthen HBD.out hb10), by have := HMS.out; simp only [intOf]; omega⟩
   | false =>
    rw [hsev] at CSV
    obtain ⟨rfl, hql, hmay⟩ := HG5.out hsev
    have hk := HKK.out
    have hk5 : 1 ≤ kk ∧ kk ≤ 5 := by unfold isSev at hsev; simp at hsev; omega
    have hka : kindAt l q1 < 256 ∧ kindAt l q1 = (l[q1]).1 := by
     have e : kindAt l q1 = (l[q1]).1 := by unfold kindAt; rw [List.getElem?_eq_getElem hql]
     exact ⟨by rw [e]; exact (HL.out.2 _ (List.getElem_mem hql)).1, e⟩
    have CM := Lib.hid (fun W => ref_May17 kk (kindAt l q1) hk5.1 hk5.2 hka.1 W)
    rw [hmay] at CM
    have HS2 : RowKit.Hid (∀ W, Below w8.heap.size w8 W → W.cell? ⟨w.heap.size, 2, none⟩ = some (.slice (some ⟨kb, ko, none⟩) r.holes.length ch) ∧ W.cell? ⟨kb, ko + h * 2, none⟩ = some (.string kn) ∧ W.cell? ⟨kb, ko + h * 2 + 1, none⟩ = some (.int .u8 (kk : Int)) ∧ W.cell? ⟨bb, bo + h * 3 + 1, none⟩ = some (.int .i64 (q1 : Int)) ∧ W.cell? ⟨lb, lo + q1 * 3, none⟩ = some (.int .u8 (kindAt l q1 : Int))) := Lib.hid fun W hb => ⟨HE2.out W hb, (HCH.out W hb).1, (HCH.out W hb).2, (HCB.out W hb).2.1, by
     obtain ⟨b2, o2, e', _, _, _, hcc⟩ := HR.out.at (bthen HB8.out hb) (show 0 < l.length by omega)
     simp only [Option.some.injEq, Addr.mk.injEq, and_true] at e'
     obtain ⟨rfl, rfl⟩ := e'
     rw [hka.2]
     exact (hcc q1 hql).1⟩
    have hq1l : (q1 : Int) < l.length := by omega
    have hq1c : (q1 : Int) < (cl : Int) := by omega
    clear hsev hmay hk hk5 hka hql HG5 HS1
    generalize kindAt l q1 = ka at *
    rw [show ((1 : Nat) : Int) = 1 from rfl]
    go_region_held3 (fun W => W.cell? ⟨w.heap.size, 2, none⟩ = some (.slice (some ⟨kb, ko, none⟩) r.holes.length ch) ∧ W.cell? ⟨kb, ko + h * 2, none⟩ = some (.string kn) ∧ W.cell? ⟨kb, ko + h * 2 + 1, none⟩ = some (.int .u8 (kk : Int)) ∧ W.cell? ⟨bb, bo + h * 3 + 1, none⟩ = some (.int .i64 (q1 : Int)) ∧ W.cell? ⟨lb, lo + q1 * 3, none⟩ = some (.int .u8 (ka : Int))) (first | exact HS2.out _ HBD.out | exact HS2.out _ (bthen HBD.out hb10)) (first | (go_at_call 22; (with_reducible refine (CSV.out _).mono ?_); (rintro e w10 ⟨rfl, hb10⟩); (try dsimp only)) | (go_at_call 23; (with_reducible refine (CM.out _).mono ?_); (rintro e w11 ⟨rfl, rfl⟩); (try dsimp only)))
    all_goals
     go_wp2_with fail
     exact ⟨HX.out _ (bthen HBD.out hb10), by have := HMS.out; simp only [intOf]; omega⟩
  ·obtain rfl : h = r.holes.length := by omega
   have hH := rule_holes HZ0.out
   have hf0 := well_zero hH.1.well
   have hok : InOK r.fnd l r.holes B := ⟨hH.1, HBL.out, HFI.out.1, HFI.out.2.1, HS.out.f.1, hll, hhl⟩
   have HBW := Lib.hid (bthen HB8.out HBR.out)
   have hml := congrArg List.length HFI.out.2.2
   rw [List.length_map, HPL.out] at hml
   have CI : RowKit.Hid (Calls Tryz.prog 24 #[.slice af r.fnd.length cf, .slice ah r.holes.length ch, .slice qa r.holes.length qc, .slice al l.length cl, .int .i64 0] wr (instPost (mPart r.fnd l r.holes (bOf B) (fuelZ r.fnd) 0) wr)) := Lib.hid (ref_Inst hok _ _ _ _ (fuelZ r.fnd) wr 0 ⟨HIN.out.F.below HBW.out, HIN.out.H.below HBW.out, HO8.out.below HBR.out, HR.out.below HBW.out⟩ hf0.1 (by rw [hf0.2]; unfold fuelZ; omega) (by omega))
   have HMP := Lib.hid HFI.out.2.2
   have HML := Lib.hid hml
   have hhn : ¬ (r.holes.length : Int) < r.holes.length := by omega
   clear hH hf0 hok hml
   generalize mPart r.fnd l r.holes (bOf B) (fuelZ r.fnd) 0 = MM at *
   go_wp2_with fail
   refine CI.out.mono ?_
   intro e w10 h10
   unfold instPost at h10
   obtain ⟨v1, v2, rfl, hb10, ho1, ho2⟩ := h10
   have hr1 : PartRow w10 v1 (piece l j zz) := by
    unfold PartRow
    rw [← HMP.out, List.length_map]
    exact Row.of_owns ho1
   obtain ⟨a1, c1, rfl, _⟩ := hr1.slice
   obtain ⟨a2, c2, rfl, _⟩ := Row.shape (Row.of_owns ho2)
   have HB10 := Lib.hid (bthen HBW.out hb10)
   have hpl := HPL.out
   have CS := Lib.hid (fun W (hb : Below w10.heap.size w10 W) => ref_Same11 _ _ (piece l j zz) (piece l j zz) (by omega) (by omega) W (hr1.below hb) (HPR.out.below (bthen HB10.out hb)))
   clear hb10 ho1 ho2 hr1 CI hpl e0 e1 e2 e3 e4
   generalize piece l j zz = PP at *
   go_wp2_with fail
   refine (CF.out w10 HB10.out).mono ?_
   rintro e w11 ⟨rfl, hb11⟩
   have HB11 := Lib.hid hb11
   clear hb11
   go_wp2_with fail
   refine (CS.out w11 HB11.out).mono ?_
   rintro e w12 ⟨x, rfl, ht, hb12⟩
   obtain rfl := ht.2 rfl
   have HX := Lib.hid (HQ.out w12 (bthen HB10.out (bthen HB11.out hb12)))
   clear ht hb12 CS
   go_wp2_with fail
   exact HX.out
end Go.Proofs.YtlkheofphafofaaGreatDoor
