/- The statement MatchMade, walked: the call returns true. -/
import Derived.Test.YtlkheofphafofaaGreatDoorRefInstMd
import Derived.Test.YtlkheofphafofaaGreatDoorShiftBMd
import Derived.Test.YtlkheofphafofaaGreatDoorRefChkBMd
import Derived.Test.YtlkheofphafofaaGreatDoorRuleCMd
import Derived.Test.YtlkheofphafofaaGreatDoorRefMAMd
import Derived.Test.YtlkheofphafofaaGreatDoorTermSameMd
import Derived.BigQuiet
import Derived.Deep.QuietTactic
namespace Go.Proofs.YtlkheofphafofaaGreatDoor
set_option linter.all false
attribute [local irreducible] Calls
attribute [local irreducible] wpStill
open Go.RowKit

def mmRel (r : RuleM) (l : List Prt) (bs : List Bnd) (w4 : World) (hv : Value) (wr : World) : Prop := ∃ h : Nat, hv = .int .i64 (h : Int) ∧ h ≤ bs.length ∧ (∀ k, k < h → MadeAt r l bs k) ∧ Below w4.heap.size w4 wr
def mmRel2 (n : Nat) (w5 : World) (hv : Value) (wr : World) : Prop := ∃ h : Nat, hv = .int .i64 (h : Int) ∧ h ≤ n ∧ Below w5.heap.size w5 wr
set_option maxRecDepth 100000 in
set_option maxHeartbeats 32000000 in
theorem MatchMade_walk (w : World) (x : RuleX) (hin : RuleIn w x.1 x.2.1 x.2.2.1 x.2.2.2) (hs : SmallR x.1) (vl : Value) (l : List Prt) (hr : PartRow w vl l) (hl : SmallL l) (vq : Value) (bs : List Bnd) (hrb : BindRow w vq bs) (hbl : bs.length ≤ 1048576) (hH : HeldM w) :
  Calls Tryz.prog 6 #[ruleAgg x.1 x.2.1 x.2.2.1 x.2.2.2, vl, vq] w (AnswersM w) := by
 obtain ⟨r, vh, vf, vb⟩ := x
 simp only [] at hin hs ⊢
 have HQ : RowKit.Hid (∀ w', Below w.heap.size w w' → AnswersM w (.returned (.bool true)) w') := Lib.hid fun w' h => AnswersM.mk h
 generalize AnswersM w = Q at *
 have CF := Lib.hid (fun w' (hb : Below w.heap.size w w') => law17_fixed w' (hH.T.below hb) (hH.M.below hb))
 obtain ⟨ah, ch, rfl, hch⟩ := Row.shape hin.H
 obtain ⟨af, cf, rfl, hcf⟩ := hin.F.slice
 obtain ⟨ab, cb, rfl, hcb⟩ := hin.B.slice
 obtain ⟨al, cl, rfl, hcl⟩ := hr.slice
 obtain ⟨aq, cq, rfl, hcq⟩ := Row.shape hrb
 have HIN := Lib.hid hin
 have HS := Lib.hid hs
 have HR := Lib.hid hr
 have HL := Lib.hid hl
 have HRB := Lib.hid hrb
 have HH := Lib.hid hH
 have hll := hl.1
 have hhl := hs.h.1
 have HR1 : RowKit.Hid (RK (w.alloc (.cells #[.string r.nm, .int .u8 (r.goal : Int), .slice ah r.holes.length ch, .slice af r.fnd.length cf, .slice ab r.by'.length cb] 25)) w.heap.size r.nm r.goal (.slice ah r.holes.length ch) (.slice af r.fnd.length cf) (.slice ab r.by'.length cb)) := Lib.hid (heap_alloc_new _ _)
 have HB1 : RowKit.Hid (Below w.heap.size w (w.alloc (.cells #[.string r.nm, .int .u8 (r.goal : Int), .slice ah r.holes.length ch, .slice af r.fnd.length cf, .slice ab r.by'.length cb] 25))) := Lib.hid ((Below.refl _ _).alloc (Nat.le_refl _) _)
 clear hin hs hr hl hH hrb
 unfold ruleAgg
 go_enter Tryz.func6, Tryz.ntmps6
 go_upto_region 1 with (fail)
 generalize w.alloc (.cells #[.string r.nm, .int .u8 (r.goal : Int), .slice ah r.holes.length ch, .slice af r.fnd.length cf, .slice ab r.by'.length cb] 25) = W1 at *
 obtain ⟨e0, e1, e2, e3, e4⟩ := HR1.out.cells
 by_cases hbig : 300 < l.length
 ·have h1' : (300 : Int) < l.length := by omega
  go_wp2_with fail
  refine (CF.out W1 HB1.out).mono ?_
  rintro e wZ ⟨rfl, hbZ⟩
  have HX := Lib.hid (HQ.out wZ (bthen HB1.out hbZ))
  clear hbZ
  go_wp2_with fail
  exact HX.out
 have h1' : ¬ (300 : Int) < l.length := by omega
 have CG := Lib.hid (ref_Great [(r, .slice ah r.holes.length ch, .slice af r.fnd.length cf, .slice ab r.by'.length cb)] (fun x hx => by rw [List.mem_singleton] at hx; rw [hx]; exact HS.out) (by simp) _ 800 _ (lit_rule W1 (r, .slice ah r.holes.length ch, .slice af r.fnd.length cf, .slice ab r.by'.length cb) (HIN.out.below HB1.out)))
 have HB2 := Lib.hid (HB1.out.alloc HB1.out.size (.cells (ruleV (r, .slice ah r.holes.length ch, .slice af r.fnd.length cf, .slice ab r.by'.length cb)).toArray 25))
 have HR2 := Lib.hid (HR1.out.below ((Below.refl _ _).alloc (Nat.le_refl _) (.cells (ruleV (r, .slice ah r.holes.length ch, .slice af r.fnd.length cf, .slice ab r.by'.length cb)).toArray 25)))
 unfold ruleV at CG HB2 HR2
 simp only [] at CG HB2 HR2
 go_wp2_with fail
 refine CG.out.mono ?_
 intro e w3 h3
 obtain ⟨y, rfl, hb3⟩ := h3.out
 have HB3 := Lib.hid (bthen HB2.out hb3)
 have HR3 := Lib.hid (HR2.out.below hb3)
 clear h3 hb3 CG HB2 HR2 e0 e1 e2 e3 e4 HB1 HR1
 obtain ⟨e0, e1, e2, e3, e4⟩ := HR3.out.cells
 cases y with
 | true =>
  go_wp2_with fail
  refine (CF.out w3 HB3.out).mono ?_
  rintro e wZ ⟨rfl, hbZ⟩
  have HX := Lib.hid (HQ.out wZ (bthen HB3.out hbZ))
  clear hbZ
  go_wp2_with fail
  exact HX.out
 | false =>
 have CC := Lib.hid (ref_Check16 r HS.out _ _ _ w3 (HIN.out.below HB3.out))
 unfold ruleAgg at CC
 go_wp2_with fail
 refine CC.out.mono ?_
 rintro e w4 ⟨rfl, hb4⟩
 have HB4 := Lib.hid (bthen HB3.out hb4)
 have HR4 := Lib.hid (HR3.out.below hb4)
 clear hb4 CC HB3 HR3 e0 e1 e2 e3 e4
 obtain ⟨e0, e1, e2, e3, e4⟩ := HR4.out.cells
 by_cases hz : ruleZ r = 0
 case neg =>
  have g1 : (ruleZ r != 0) = true := by rw [bne_iff_ne]; exact hz
  clear hz
  generalize ruleZ r = z at *
  go_wp2_with fail
  refine (CF.out w4 HB4.out).mono ?_
  rintro e wZ ⟨rfl, hbZ⟩
  have HX := Lib.hid (HQ.out wZ (bthen HB4.out hbZ))
  clear hbZ
  go_wp2_with fail
  exact HX.out
 have HZ := Lib.hid hz
 rw [hz]
 clear hz
 have CC := Lib.hid (ref_Well11 l (by omega) _ w4 (HR.out.below HB4.out))
 go_wp2_with fail
 refine CC.out.mono ?_
 rintro e w4' ⟨rfl, rfl⟩
 clear CC
 cases hw : wellB l with
 | false =>
  clear hw
  go_wp2_with fail
  refine (CF.out w4 HB4.out).mono ?_
  rintro e wZ ⟨rfl, hbZ⟩
  have HX := Lib.hid (HQ.out wZ (bthen HB4.out hbZ))
  clear hbZ
  go_wp2_with fail
  exact HX.out
 | true =>
 have HW := Lib.hid hw
 clear hw
 by_cases hn : bs.length = r.holes.length
 case neg =>
  have g1 : ((bs.length : Int) != (r.holes.length : Int)) = true := by rw [bne_iff_ne]; omega
  have g2 : (bs.length != r.holes.length) = true := by rw [bne_iff_ne]; exact hn
  clear hn
  go_wp2_with fail
  refine (CF.out w4 HB4.out).mono ?_
  rintro e wZ ⟨rfl, hbZ⟩
  have HX := Lib.hid (HQ.out wZ (bthen HB4.out hbZ))
  clear hbZ
  go_wp2_with fail
  exact HX.out
 have HN := Lib.hid hn
 have g1 : ((bs.length : Int) != (r.holes.length : Int)) = false := by rw [bne_eq_false_iff_eq]; omega
 have g2 : (bs.length != r.holes.length) = false := by rw [bne_eq_false_iff_eq]; exact hn
 clear hn
 go_wp2_with fail
 clear g1 g2 e0 e1 e2 e3 e4
 go_loopw [7] (fun hv wr => mmRel r l bs w4 hv wr) (fun hv _ => bs.length - (intOf hv).toNat)
 case atStart => exact ⟨0, rfl, Nat.zero_le _, fun k hk => absurd hk (Nat.not_lt_zero _), Below.refl _ _⟩
 case round =>
  obtain ⟨h, rfl, hh, hmk, hb⟩ := hrel
  have HMK := Lib.hid hmk
  have HBR := Lib.hid hb
  clear hmk hb
  obtain ⟨e0, e1, e2, e3, e4⟩ := (HR4.out.below HBR.out).cells
  by_cases hlt : h < bs.length
  ·have hlt' : h < r.holes.length := by rw [← HN.out]; exact hlt
   obtain ⟨qb, qo, rfl, y1, y2, y3, y4⟩ := HRB.out.at (bthen HB4.out HBR.out) (show 0 < bs.length by omega)
   obtain ⟨d0, d1, d2⟩ := y4 h hlt
   clear y1 y2 y3 y4
   obtain ⟨kb, ko, rfl, y1, y2, y3, y4⟩ := HIN.out.H.at (bthen HB4.out HBR.out) (show 0 < r.holes.length by omega)
   clear y1 y2 y3 y4
   have HCH : RowKit.Hid (∀ W, Below w4.heap.size w4 W → W.cell? ⟨kb, ko + h * 2, none⟩ = some (.string (r.holes[h]).1) ∧ W.cell? ⟨kb, ko + h * 2 + 1, none⟩ = some (.int .u8 ((r.holes[h]).2 : Int))) := Lib.hid fun W hb => by
    obtain ⟨b2, o2, e', _, _, _, hcc⟩ := HIN.out.H.at (bthen HB4.out hb) (show 0 < r.holes.length by omega)
    simp only [Option.some.injEq, Addr.mk.injEq, and_true] at e'
    obtain ⟨rfl, rfl⟩ := e'
    exact hcc h hlt'
   have HE2 : RowKit.Hid (∀ W, Below w4.heap.size w4 W → W.cell? ⟨w.heap.size, 2, none⟩ = some (.slice (some ⟨kb, ko, none⟩) r.holes.length ch)) := Lib.hid fun W hb => (HR4.out.below hb).cells.2.2.1
   have hhk := (holeB_inv hlt' ((ruleZ_inv HZ.out).2.2.2.2.2.2.2 h hlt')).2.2.1
   have hkd : hkind r.holes h = (r.holes[h]).2 := by unfold hkind; rw [List.getElem?_eq_getElem hlt']
   have HMA : RowKit.Hid ((0 ≤ (bs[h]).2.1 ∧ (bs[h]).2.1 ≤ (bs[h]).2.2 ∧ (bs[h]).2.2 ≤ l.length) ∧ 0 ≤ treesZ (piece l (bs[h]).2.1.toNat (bs[h]).2.2.toNat) ∧ (isSev (r.holes[h]).2 = false → treesZ (piece l (bs[h]).2.1.toNat (bs[h]).2.2.toNat) = 1 ∧ mayB (r.holes[h]).2 (kindAt l (bs[h]).2.1.toNat) = true) → MadeAt r l bs h) := Lib.hid fun c => by
    intro _
    rw [hkd]
    exact c
   have HX : RowKit.Hid (∀ W, Below w4.heap.size w4 W → MadeAt r l bs h → mmRel r l bs w4 (.int .i64 ((h : Int) + 1)) W) := Lib.hid fun W hb hm => ⟨h + 1, by push_cast; rfl, hlt, fun k hk => by
    by_cases e : k = h
    ·subst e; exact hm
    ·exact HMK.out k (by omega), hb⟩
   have HMS : RowKit.Hid (bs.length - (h + 1) < bs.length - h) := Lib.hid (by omega)
   have HKK := Lib.hid hhk
   have hh0 : (0 : Int) ≤ (h : Int) := by omega
   have hhl' : (h : Int) < r.holes.length := by omega
   have hhq : (h : Int) < (cq : Int) := by omega
   have hhb : (h : Int) < bs.length := by omega
   have hhc : (h : Int) < (ch : Int) := by omega
   have hwh : IntKind.i64.wrap ((h : Int) + 1) = (h : Int) + 1 := by rw [IntKind.wrap_i64]; omega
   clear hhk hkd
   generalize bs[h] = bb at *
   obtain ⟨bn, bf, bt⟩ := bb
   simp only [] at d0 d1 d2 HMA
   generalize (r.holes[h]).1 = kn at *
   generalize (r.holes[h]).2 = kk at *
   clear hlt hlt'
   go_upto_region 7 with (fail)
   have HWX : RowKit.Hid (Below w4.heap.size w4 (wr.alloc (.cells #[.string bn, .int .i64 bf, .int .i64 bt] 41))) := Lib.hid (HBR.out.alloc HBR.out.size _)
   have x1 : (wr.alloc (.cells #[.string bn, .int .i64 bf, .int .i64 bt] 41)).cell? ⟨wr.heap.size, 1, none⟩ = some (.int .i64 bf) := World.cell?_alloc_at _ _ _ _ rfl
   have x2 : (wr.alloc (.cells #[.string bn, .int .i64 bf, .int .i64 bt] 41)).cell? ⟨wr.heap.size, 2, none⟩ = some (.int .i64 bt) := World.cell?_alloc_at _ _ _ _ rfl
   have HGX : RowKit.Hid ((wr.alloc (.cells #[.string bn, .int .i64 bf, .int .i64 bt] 41)).heap[wr.heap.size]? = some (.cells #[.string bn, .int .i64 bf, .int .i64 bt] 41 (0, 0))) := Lib.hid (heap_alloc_new _ _)
   clear d0 d1 d2 e0 e1 e2 e3 e4
   generalize wr.alloc (.cells #[.string bn, .int .i64 bf, .int .i64 bt] 41) = wx at *
   generalize wr.heap.size = gx at *
   have HBX := Lib.hid (bthen HB4.out HWX.out)
   by_cases c1 : bf < 0
   ·go_wp2_with fail
    refine (CF.out wx HBX.out).mono ?_
    rintro e wZ ⟨rfl, hbZ⟩
    have HX := Lib.hid (HQ.out wZ (bthen HBX.out hbZ))
    clear hbZ
    go_wp2_with fail
    exact HX.out
   by_cases c2 : bt < bf
   ·go_wp2_with fail
    refine (CF.out wx HBX.out).mono ?_
    rintro e wZ ⟨rfl, hbZ⟩
    have HX := Lib.hid (HQ.out wZ (bthen HBX.out hbZ))
    clear hbZ
    go_wp2_with fail
    exact HX.out
   by_cases c3 : (l.length : Int) < bt
   ·go_wp2_with fail
    refine (CF.out wx HBX.out).mono ?_
    rintro e wZ ⟨rfl, hbZ⟩
    have HX := Lib.hid (HQ.out wZ (bthen HBX.out hbZ))
    clear hbZ
    go_wp2_with fail
    exact HX.out
   obtain ⟨f, rfl⟩ : ∃ f : Nat, bf = (f : Int) := ⟨bf.toNat, by omega⟩
   obtain ⟨t, rfl⟩ : ∃ t : Nat, bt = (t : Int) := ⟨bt.toNat, by omega⟩
   have hft : f ≤ t := by omega
   have htl : t ≤ l.length := by omega
   have f1 : (0 : Int) ≤ (f : Int) := by omega
   have f2 : (f : Int) ≤ (t : Int) := by omega
   have f3 : (t : Int) ≤ l.length := by omega
   rw [Int.toNat_natCast, Int.toNat_natCast] at HMA
   obtain ⟨sp, sc, hsl, hpr⟩ := slice_piece w _ l HR.out f t hft htl
   have hpl2 : (piece l f t).length ≤ 1048576 := by unfold piece; rw [List.length_take, List.length_drop]; omega
   have CT := Lib.hid (ref_Trees11 (piece l f t) (by omega) _ wx (hpr.below HBX.out))
   have hone : treesZ (piece l f t) = 1 → f < l.length := fun e1 => by
    obtain ⟨ts, e2, e3⟩ := treesZ_rows (l := piece l f t) (by omega)
    have h1 := (rowsB_sum e2).2.1
    unfold piece at h1
    rw [List.length_take, List.length_drop] at h1
    omega
   have HONE := Lib.hid hone
   clear hpr hpl2 hone
   generalize htz : treesZ (piece l f t) = tz at *
   clear htz
   go_wp2_with fail
   refine CT.out.mono ?_
   rintro e wx' ⟨rfl, rfl⟩
   clear CT hsl
   go_upto_region 10 with (fail)
   have HWD := Lib.hid HWX.out.drew
   have HBD := Lib.hid HBX.out.drew
   have HTT : RowKit.Hid True := Lib.hid trivial
   by_cases ct : tz < 0
   ·have ct2 : decide (tz < 0) = true := decide_eq_true ct
    refine wp_region_noPanic ?_
    refine wp_region_held_drew (S := fun _ => RowKit.Hid True) (by kernel_rfl) HTT (fun hHeldA => ?_)
    refine wpAnyH_take (i := 0) (oi := ⟨some 79, _, _, _, _, _⟩) (v := ?vA0) rfl (by kernel_rfl) (by kernel_rfl) (by kernel_rfl) (fun _ _ _ h => h) (Or.inl ⟨by kernel_rfl, ?hyA0⟩) hHeldA ?restA0
    case hyA0 => intro w hSw; (try dsimp only at hSw); go_simp; (try with_reducible rfl)
    (try simp only [Act.put, List.setIfInBounds_toArray, List.set_cons_zero, List.set_cons_succ])
    refine wpAnyH_take (i := 1) (oi := ⟨some 80, _, _, _, _, _⟩) (v := ?vA1) rfl (by kernel_rfl) (by kernel_rfl) (by kernel_rfl) (fun _ _ _ h => h) (Or.inl ⟨by kernel_rfl, ?hyA1⟩) hHeldA ?restA1
    case hyA1 => intro w hSw; (try dsimp only at hSw); go_simp; (try with_reducible rfl)
    (try simp only [Act.put, List.setIfInBounds_toArray, List.set_cons_zero, List.set_cons_succ])
    refine wpAnyH_take (i := 2) (oi := ⟨some 81, _, _, _, _, _⟩) (v := ?vA2) rfl (by kernel_rfl) (by kernel_rfl) (by kernel_rfl) (fun _ _ _ h => h) (Or.inl ⟨by kernel_rfl, ?hyA2⟩) hHeldA ?restA2
    case hyA2 => intro w hSw; (try dsimp only at hSw); go_simp; (try with_reducible rfl)
    (try simp only [Act.put, List.setIfInBounds_toArray, List.set_cons_zero, List.set_cons_succ])
    refine wpAnyH_take (i := 3) (oi := ⟨some 82, _, _, _, _, _⟩) (v := undef) rfl (by kernel_rfl) (by kernel_rfl) (by kernel_rfl) (fun _ _ _ h => h) (Or.inr ⟨by kernel_rfl, rfl⟩) hHeldA ?_
    (try simp only [Act.put, List.setIfInBounds_toArray, List.set_cons_zero, List.set_cons_succ])
    refine wpAnyH_take (i := 4) (oi := ⟨some 83, _, _, _, _, _⟩) (v := undef) rfl (by kernel_rfl) (by kernel_rfl) (by kernel_rfl) (fun _ _ _ h => h) (Or.inr ⟨by kernel_rfl, rfl⟩) hHeldA ?_
    (try simp only [Act.put, List.setIfInBounds_toArray, List.set_cons_zero, List.set_cons_succ])
    refine wpAnyH_take (i := 5) (oi := ⟨some 84, _, _, _, _, _⟩) (v := undef) rfl (by kernel_rfl) (by kernel_rfl) (by kernel_rfl) (fun _ _ _ h => h) (Or.inr ⟨by kernel_rfl, rfl⟩) hHeldA ?_
    (try simp only [Act.put, List.setIfInBounds_toArray, List.set_cons_zero, List.set_cons_succ])
    refine wpAnyH_take (i := 6) (oi := ⟨some 85, _, _, _, _, _⟩) (v := undef) rfl (by kernel_rfl) (by kernel_rfl) (by kernel_rfl) (fun _ _ _ h => h) (Or.inr ⟨by kernel_rfl, rfl⟩) hHeldA ?_
    (try simp only [Act.put, List.setIfInBounds_toArray, List.set_cons_zero, List.set_cons_succ])
    refine wpAnyH_take (i := 7) (oi := ⟨some 86, _, _, _, _, _⟩) (v := undef) rfl (by kernel_rfl) (by kernel_rfl) (by kernel_rfl) (fun _ _ _ h => h) (Or.inr ⟨by kernel_rfl, rfl⟩) hHeldA ?_
    (try simp only [Act.put, List.setIfInBounds_toArray, List.set_cons_zero, List.set_cons_succ])
    refine wpAnyH_ready (rs := [8]) (by kernel_rfl) (by simp) ?_
    refine AllReadyH.cons (o := ⟨some 87, _, _, _, _, _⟩) rfl (fun K hK => ?_) AllReadyH.nil
    rw [if_neg]
    rotate_left
    ·exact fun h => Bool.noConfusion (h.symm.trans (by kernel_rfl : _ = false))
    refine hK.out _ _ hHeldA (fun hHeldA_1 => ?_)
    clear hK K hHeldA
    (try simp only [Act.put, List.setIfInBounds_toArray, List.set_cons_zero, List.set_cons_succ])
    refine wpAnyH_take (i := 9) (oi := ⟨some 88, _, _, _, _, _⟩) (v := undef) rfl (by kernel_rfl) (by kernel_rfl) (by kernel_rfl) (fun _ _ _ h => h) (Or.inr ⟨by kernel_rfl, rfl⟩) hHeldA_1 ?_
    (try simp only [Act.put, List.setIfInBounds_toArray, List.set_cons_zero, List.set_cons_succ])
    refine wpAnyH_take (i := 10) (oi := ⟨some 89, _, _, _, _, _⟩) (v := undef) rfl (by kernel_rfl) (by kernel_rfl) (by kernel_rfl) (fun _ _ _ h => h) (Or.inr ⟨by kernel_rfl, rfl⟩) hHeldA_1 ?_
    (try simp only [Act.put, List.setIfInBounds_toArray, List.set_cons_zero, List.set_cons_succ])
    refine wpAnyH_take (i := 11) (oi := ⟨some 90, _, _, _, _, _⟩) (v := undef) rfl (by kernel_rfl) (by kernel_rfl) (by kernel_rfl) (fun _ _ _ h => h) (Or.inr ⟨by kernel_rfl, rfl⟩) hHeldA_1 ?_
    (try simp only [Act.put, List.setIfInBounds_toArray, List.set_cons_zero, List.set_cons_succ])
    refine wpAnyH_take (i := 12) (oi := ⟨some 91, _, _, _, _, _⟩) (v := undef) rfl (by kernel_rfl) (by kernel_rfl) (by kernel_rfl) (fun _ _ _ h => h) (Or.inr ⟨by kernel_rfl, rfl⟩) hHeldA_1 ?_
    (try simp only [Act.put, List.setIfInBounds_toArray, List.set_cons_zero, List.set_cons_succ])
    refine wpAnyH_take (i := 13) (oi := ⟨some 92, _, _, _, _, _⟩) (v := undef) rfl (by kernel_rfl) (by kernel_rfl) (by kernel_rfl) (fun _ _ _ h => h) (Or.inr ⟨by kernel_rfl, rfl⟩) hHeldA_1 ?_
    (try simp only [Act.put, List.setIfInBounds_toArray, List.set_cons_zero, List.set_cons_succ])
    refine wpAnyH_take (i := 14) (oi := ⟨some 93, _, _, _, _, _⟩) (v := undef) rfl (by kernel_rfl) (by kernel_rfl) (by kernel_rfl) (fun _ _ _ h => h) (Or.inr ⟨by kernel_rfl, rfl⟩) hHeldA_1 ?_
    (try simp only [Act.put, List.setIfInBounds_toArray, List.set_cons_zero, List.set_cons_succ])
    refine wpAnyH_take (i := 15) (oi := ⟨some 94, _, _, _, _, _⟩) (v := undef) rfl (by kernel_rfl) (by kernel_rfl) (by kernel_rfl) (fun _ _ _ h => h) (Or.inr ⟨by kernel_rfl, rfl⟩) hHeldA_1 ?_
    (try simp only [Act.put, List.setIfInBounds_toArray, List.set_cons_zero, List.set_cons_succ])
    refine wpAnyH_take (i := 16) (oi := ⟨some 95, _, _, _, _, _⟩) (v := undef) rfl (by kernel_rfl) (by kernel_rfl) (by kernel_rfl) (fun _ _ _ h => h) (Or.inr ⟨by kernel_rfl, rfl⟩) hHeldA_1 ?_
    (try simp only [Act.put, List.setIfInBounds_toArray, List.set_cons_zero, List.set_cons_succ])
    refine wpAnyH_take (i := 17) (oi := ⟨some 96, _, _, _, _, _⟩) (v := undef) rfl (by kernel_rfl) (by kernel_rfl) (by kernel_rfl) (fun _ _ _ h => h) (Or.inr ⟨by kernel_rfl, rfl⟩) hHeldA_1 ?_
    (try simp only [Act.put, List.setIfInBounds_toArray, List.set_cons_zero, List.set_cons_succ])
    refine wpAnyH_take (i := 18) (oi := ⟨some 97, _, _, _, _, _⟩) (v := undef) rfl (by kernel_rfl) (by kernel_rfl) (by kernel_rfl) (fun _ _ _ h => h) (Or.inr ⟨by kernel_rfl, rfl⟩) hHeldA_1 ?_
    (try simp only [Act.put, List.setIfInBounds_toArray, List.set_cons_zero, List.set_cons_succ])
    refine wpAnyH_take (i := 19) (oi := ⟨some 98, _, _, _, _, _⟩) (v := undef) rfl (by kernel_rfl) (by kernel_rfl) (by kernel_rfl) (fun _ _ _ h => h) (Or.inr ⟨by kernel_rfl, rfl⟩) hHeldA_1 ?_
    (try simp only [Act.put, List.setIfInBounds_toArray, List.set_cons_zero, List.set_cons_succ])
    refine wpAnyH_take (i := 20) (oi := ⟨some 99, _, _, _, _, _⟩) (v := undef) rfl (by kernel_rfl) (by kernel_rfl) (by kernel_rfl) (fun _ _ _ h => h) (Or.inr ⟨by kernel_rfl, rfl⟩) hHeldA_1 ?_
    (try simp only [Act.put, List.setIfInBounds_toArray, List.set_cons_zero, List.set_cons_succ])
    refine wpAnyH_take (i := 21) (oi := ⟨some 100, _, _, _, _, _⟩) (v := undef) rfl (by kernel_rfl) (by kernel_rfl) (by kernel_rfl) (fun _ _ _ h => h) (Or.inr ⟨by kernel_rfl, rfl⟩) hHeldA_1 ?_
    (try simp only [Act.put, List.setIfInBounds_toArray, List.set_cons_zero, List.set_cons_succ])
    refine wpAnyH_take (i := 22) (oi := ⟨some 101, _, _, _, _, _⟩) (v := undef) rfl (by kernel_rfl) (by kernel_rfl) (by kernel_rfl) (fun _ _ _ h => h) (Or.inr ⟨by kernel_rfl, rfl⟩) hHeldA_1 ?_
    (try simp only [Act.put, List.setIfInBounds_toArray, List.set_cons_zero, List.set_cons_succ])
    refine wpAnyH_take (i := 23) (oi := ⟨some 102, _, _, _, _, _⟩) (v := undef) rfl (by kernel_rfl) (by kernel_rfl) (by kernel_rfl) (fun _ _ _ h => h) (Or.inr ⟨by kernel_rfl, rfl⟩) hHeldA_1 ?_
    (try simp only [Act.put, List.setIfInBounds_toArray, List.set_cons_zero, List.set_cons_succ])
    refine wpAnyH_take (i := 24) (oi := ⟨some 103, _, _, _, _, _⟩) (v := undef) rfl (by kernel_rfl) (by kernel_rfl) (by kernel_rfl) (fun _ _ _ h => h) (Or.inr ⟨by kernel_rfl, rfl⟩) hHeldA_1 ?_
    (try simp only [Act.put, List.setIfInBounds_toArray, List.set_cons_zero, List.set_cons_succ])
    refine wpAnyH_take (i := 25) (oi := ⟨some 104, _, _, _, _, _⟩) (v := undef) rfl (by kernel_rfl) (by kernel_rfl) (by kernel_rfl) (fun _ _ _ h => h) (Or.inr ⟨by kernel_rfl, rfl⟩) hHeldA_1 ?_
    (try simp only [Act.put, List.setIfInBounds_toArray, List.set_cons_zero, List.set_cons_succ])
    refine wpAnyH_ready (rs := [26]) (by kernel_rfl) (by simp) ?_
    refine AllReadyH.cons (o := ⟨some 105, _, _, _, _, _⟩) rfl (fun K hK => ?_) AllReadyH.nil
    rw [if_neg]
    rotate_left
    ·exact fun h => Bool.noConfusion (h.symm.trans (by kernel_rfl : _ = false))
    refine hK.out _ _ hHeldA_1 (fun hHeldA_2 => ?_)
    clear hK K hHeldA_1
    (try simp only [Act.put, List.setIfInBounds_toArray, List.set_cons_zero, List.set_cons_succ])
    refine wpAnyH_take (i := 27) (oi := ⟨some 106, _, _, _, _, _⟩) (v := undef) rfl (by kernel_rfl) (by kernel_rfl) (by kernel_rfl) (fun _ _ _ h => h) (Or.inr ⟨by kernel_rfl, rfl⟩) hHeldA_2 ?_
    (try simp only [Act.put, List.setIfInBounds_toArray, List.set_cons_zero, List.set_cons_succ])
    refine wpAnyH_take (i := 28) (oi := ⟨some 107, _, _, _, _, _⟩) (v := undef) rfl (by kernel_rfl) (by kernel_rfl) (by kernel_rfl) (fun _ _ _ h => h) (Or.inr ⟨by kernel_rfl, rfl⟩) hHeldA_2 ?_
    (try simp only [Act.put, List.setIfInBounds_toArray, List.set_cons_zero, List.set_cons_succ])
    refine wpAnyH_take (i := 29) (oi := ⟨some 108, _, _, _, _, _⟩) (v := undef) rfl (by kernel_rfl) (by kernel_rfl) (by kernel_rfl) (fun _ _ _ h => h) (Or.inr ⟨by kernel_rfl, rfl⟩) hHeldA_2 ?_
    (try simp only [Act.put, List.setIfInBounds_toArray, List.set_cons_zero, List.set_cons_succ])
    refine wpAnyH_take (i := 30) (oi := ⟨some 109, _, _, _, _, _⟩) (v := ?vA30) rfl (by kernel_rfl) (by kernel_rfl) (by kernel_rfl) (fun _ _ _ h => h) (Or.inl ⟨by kernel_rfl, ?hyA30⟩) hHeldA_2 ?restA30
    case hyA30 => intro w hSw; (try dsimp only at hSw); go_simp; (try with_reducible rfl)
    (try simp only [Act.put, List.setIfInBounds_toArray, List.set_cons_zero, List.set_cons_succ])
    refine wpAnyH_done (by kernel_rfl) ?_ _
    refine NoPanic.normal ?_
    go_wp2_with fail
    refine (CF.out _ HBD.out).mono ?_
    rintro e wZ ⟨rfl, hbZ⟩
    have HX2 := Lib.hid (HQ.out wZ (bthen HBD.out hbZ))
    clear hbZ
    go_wp2_with fail
    exact HX2.out
   have ct2 : decide (tz < 0) = false := decide_eq_false ct
   have CSV := Lib.hid (fun W => ref_Several kn kk W)
   have HS1 : RowKit.Hid (∀ W, Below w4.heap.size w4 W → W.cell? ⟨w.heap.size, 2, none⟩ = some (.slice (some ⟨kb, ko, none⟩) r.holes.length ch) ∧ W.cell? ⟨kb, ko + h * 2, none⟩ = some (.string kn) ∧ W.cell? ⟨kb, ko + h * 2 + 1, none⟩ = some (.int .u8 (kk : Int))) := Lib.hid fun W hb => ⟨HE2.out W hb, (HCH.out W hb).1, (HCH.out W hb).2⟩
   cases hsev : isSev kk with
   | true =>
    rw [hsev] at CSV
    have HMD := Lib.hid (HMA.out ⟨⟨by omega, by omega, by omega⟩, by omega, fun e => by rw [hsev] at e; cases e⟩)
    clear hsev
    refine wp_region_noPanic ?_
    refine wp_region_held_drew (S := fun W => W.cell? ⟨w.heap.size, 2, none⟩ = some (.slice (some ⟨kb, ko, none⟩) r.holes.length ch) ∧ W.cell? ⟨kb, ko + h * 2, none⟩ = some (.string kn) ∧ W.cell? ⟨kb, ko + h * 2 + 1, none⟩ = some (.int .u8 (kk : Int))) (by kernel_rfl) (HS1.out _ HWD.out) (fun hHeldB => ?_)
    refine wpAnyH_take (i := 0) (oi := ⟨some 79, _, _, _, _, _⟩) (v := ?vB0) rfl (by kernel_rfl) (by kernel_rfl) (by kernel_rfl) (fun _ _ _ h => h) (Or.inl ⟨by kernel_rfl, ?hyB0⟩) hHeldB ?restB0
    case hyB0 => intro w hSw; (try dsimp only at hSw); go_simp; (try with_reducible rfl)
    (try simp only [Act.put, List.setIfInBounds_toArray, List.set_cons_zero, List.set_cons_succ])
    refine wpAnyH_take (i := 1) (oi := ⟨some 80, _, _, _, _, _⟩) (v := ?vB1) rfl (by kernel_rfl) (by kernel_rfl) (by kernel_rfl) (fun _ _ _ h => h) (Or.inl ⟨by kernel_rfl, ?hyB1⟩) hHeldB ?restB1
    case hyB1 => intro w hSw; (try dsimp only at hSw); go_simp; (try with_reducible rfl)
    (try simp only [Act.put, List.setIfInBounds_toArray, List.set_cons_zero, List.set_cons_succ])
    refine wpAnyH_take (i := 2) (oi := ⟨some 81, _, _, _, _, _⟩) (v := ?vB2) rfl (by kernel_rfl) (by kernel_rfl) (by kernel_rfl) (fun _ _ _ h => h) (Or.inl ⟨by kernel_rfl, ?hyB2⟩) hHeldB ?restB2
    case hyB2 => intro w hSw; (try dsimp only at hSw); go_simp; (try with_reducible rfl)
    (try simp only [Act.put, List.setIfInBounds_toArray, List.set_cons_zero, List.set_cons_succ])
    refine wpAnyH_take (i := 3) (oi := ⟨some 82, _, _, _, _, _⟩) (v := ?vB3) rfl (by kernel_rfl) (by kernel_rfl) (by kernel_rfl) (fun _ _ _ h => h) (Or.inl ⟨by kernel_rfl, ?hyB3⟩) hHeldB ?restB3
    case hyB3 => intro w hSw; (try dsimp only at hSw); go_simp; (try with_reducible rfl)
    (try simp only [Act.put, List.setIfInBounds_toArray, List.set_cons_zero, List.set_cons_succ])
    refine wpAnyH_take (i := 4) (oi := ⟨some 83, _, _, _, _, _⟩) (v := ?vB4) rfl (by kernel_rfl) (by kernel_rfl) (by kernel_rfl) (fun _ _ _ h => h) (Or.inl ⟨by kernel_rfl, ?hyB4⟩) hHeldB ?restB4
    case hyB4 => intro w hSw; (try dsimp only at hSw); go_simp; (try with_reducible rfl)
    (try simp only [Act.put, List.setIfInBounds_toArray, List.set_cons_zero, List.set_cons_succ])
    refine wpAnyH_take (i := 5) (oi := ⟨some 84, _, _, _, _, _⟩) (v := ?vB5) rfl (by kernel_rfl) (by kernel_rfl) (by kernel_rfl) (fun _ _ _ h => h) (Or.inl ⟨by kernel_rfl, ?hyB5⟩) hHeldB ?restB5
    case hyB5 => intro w hSw; (try dsimp only at hSw); go_simp; (try with_reducible rfl)
    (try simp only [Act.put, List.setIfInBounds_toArray, List.set_cons_zero, List.set_cons_succ])
    refine wpAnyH_take (i := 6) (oi := ⟨some 85, _, _, _, _, _⟩) (v := ?vB6) rfl (by kernel_rfl) (by kernel_rfl) (by kernel_rfl) (fun _ _ _ h => h) (Or.inl ⟨by kernel_rfl, ?hyB6⟩) hHeldB ?restB6
    case hyB6 => intro w hSw; (try dsimp only at hSw); go_simp; (try with_reducible rfl)
    (try simp only [Act.put, List.setIfInBounds_toArray, List.set_cons_zero, List.set_cons_succ])
    refine wpAnyH_take (i := 7) (oi := ⟨some 86, _, _, _, _, _⟩) (v := ?vB7) rfl (by kernel_rfl) (by kernel_rfl) (by kernel_rfl) (fun _ _ _ h => h) (Or.inl ⟨by kernel_rfl, ?hyB7⟩) hHeldB ?restB7
    case hyB7 => intro w hSw; (try dsimp only at hSw); go_simp; (try with_reducible rfl)
    (try simp only [Act.put, List.setIfInBounds_toArray, List.set_cons_zero, List.set_cons_succ])
    refine wpAnyH_ready (rs := [8]) (by kernel_rfl) (by simp) ?_
    refine AllReadyH.cons (o := _) rfl (fun K hK => ?_) AllReadyH.nil
    go_simp
    go_at_call 22
    refine (CSV.out _).mono ?_
    rintro e w10 ⟨rfl, hb10⟩
    (try dsimp only)
    refine hK.out _ _ (HS1.out _ (bthen HWD.out hb10)) (fun hHeldB_1 => ?_)
    clear hK K hHeldB
    (try simp only [Act.put, List.setIfInBounds_toArray, List.set_cons_zero, List.set_cons_succ])
    refine wpAnyH_take (i := 9) (oi := ⟨some 88, _, _, _, _, _⟩) (v := ?vB9) rfl (by kernel_rfl) (by kernel_rfl) (by kernel_rfl) (fun _ _ _ h => h) (Or.inl ⟨by kernel_rfl, ?hyB9⟩) hHeldB_1 ?restB9
    case hyB9 => intro w hSw; (try dsimp only at hSw); go_simp; (try with_reducible rfl)
    (try simp only [Act.put, List.setIfInBounds_toArray, List.set_cons_zero, List.set_cons_succ])
    refine wpAnyH_take (i := 10) (oi := ⟨some 89, _, _, _, _, _⟩) (v := ?vB10) rfl (by kernel_rfl) (by kernel_rfl) (by kernel_rfl) (fun _ _ _ h => h) (Or.inl ⟨by kernel_rfl, ?hyB10⟩) hHeldB_1 ?restB10
    case hyB10 => intro w hSw; (try dsimp only at hSw); go_simp; (try with_reducible rfl)
    (try simp only [Act.put, List.setIfInBounds_toArray, List.set_cons_zero, List.set_cons_succ])
    refine wpAnyH_take (i := 11) (oi := ⟨some 90, _, _, _, _, _⟩) (v := undef) rfl (by kernel_rfl) (by kernel_rfl) (by kernel_rfl) (fun _ _ _ h => h) (Or.inr ⟨by kernel_rfl, rfl⟩) hHeldB_1 ?_
    (try simp only [Act.put, List.setIfInBounds_toArray, List.set_cons_zero, List.set_cons_succ])
    refine wpAnyH_take (i := 12) (oi := ⟨some 91, _, _, _, _, _⟩) (v := undef) rfl (by kernel_rfl) (by kernel_rfl) (by kernel_rfl) (fun _ _ _ h => h) (Or.inr ⟨by kernel_rfl, rfl⟩) hHeldB_1 ?_
    (try simp only [Act.put, List.setIfInBounds_toArray, List.set_cons_zero, List.set_cons_succ])
    refine wpAnyH_take (i := 13) (oi := ⟨some 92, _, _, _, _, _⟩) (v := undef) rfl (by kernel_rfl) (by kernel_rfl) (by kernel_rfl) (fun _ _ _ h => h) (Or.inr ⟨by kernel_rfl, rfl⟩) hHeldB_1 ?_
    (try simp only [Act.put, List.setIfInBounds_toArray, List.set_cons_zero, List.set_cons_succ])
    refine wpAnyH_take (i := 14) (oi := ⟨some 93, _, _, _, _, _⟩) (v := undef) rfl (by kernel_rfl) (by kernel_rfl) (by kernel_rfl) (fun _ _ _ h => h) (Or.inr ⟨by kernel_rfl, rfl⟩) hHeldB_1 ?_
    (try simp only [Act.put, List.setIfInBounds_toArray, List.set_cons_zero, List.set_cons_succ])
    refine wpAnyH_take (i := 15) (oi := ⟨some 94, _, _, _, _, _⟩) (v := undef) rfl (by kernel_rfl) (by kernel_rfl) (by kernel_rfl) (fun _ _ _ h => h) (Or.inr ⟨by kernel_rfl, rfl⟩) hHeldB_1 ?_
    (try simp only [Act.put, List.setIfInBounds_toArray, List.set_cons_zero, List.set_cons_succ])
    refine wpAnyH_take (i := 16) (oi := ⟨some 95, _, _, _, _, _⟩) (v := undef) rfl (by kernel_rfl) (by kernel_rfl) (by kernel_rfl) (fun _ _ _ h => h) (Or.inr ⟨by kernel_rfl, rfl⟩) hHeldB_1 ?_
    (try simp only [Act.put, List.setIfInBounds_toArray, List.set_cons_zero, List.set_cons_succ])
    refine wpAnyH_take (i := 17) (oi := ⟨some 96, _, _, _, _, _⟩) (v := undef) rfl (by kernel_rfl) (by kernel_rfl) (by kernel_rfl) (fun _ _ _ h => h) (Or.inr ⟨by kernel_rfl, rfl⟩) hHeldB_1 ?_
    (try simp only [Act.put, List.setIfInBounds_toArray, List.set_cons_zero, List.set_cons_succ])
    refine wpAnyH_take (i := 18) (oi := ⟨some 97, _, _, _, _, _⟩) (v := undef) rfl (by kernel_rfl) (by kernel_rfl) (by kernel_rfl) (fun _ _ _ h => h) (Or.inr ⟨by kernel_rfl, rfl⟩) hHeldB_1 ?_
    (try simp only [Act.put, List.setIfInBounds_toArray, List.set_cons_zero, List.set_cons_succ])
    refine wpAnyH_take (i := 19) (oi := ⟨some 98, _, _, _, _, _⟩) (v := undef) rfl (by kernel_rfl) (by kernel_rfl) (by kernel_rfl) (fun _ _ _ h => h) (Or.inr ⟨by kernel_rfl, rfl⟩) hHeldB_1 ?_
    (try simp only [Act.put, List.setIfInBounds_toArray, List.set_cons_zero, List.set_cons_succ])
    refine wpAnyH_take (i := 20) (oi := ⟨some 99, _, _, _, _, _⟩) (v := undef) rfl (by kernel_rfl) (by kernel_rfl) (by kernel_rfl) (fun _ _ _ h => h) (Or.inr ⟨by kernel_rfl, rfl⟩) hHeldB_1 ?_
    (try simp only [Act.put, List.setIfInBounds_toArray, List.set_cons_zero, List.set_cons_succ])
    refine wpAnyH_take (i := 21) (oi := ⟨some 100, _, _, _, _, _⟩) (v := undef) rfl (by kernel_rfl) (by kernel_rfl) (by kernel_rfl) (fun _ _ _ h => h) (Or.inr ⟨by kernel_rfl, rfl⟩) hHeldB_1 ?_
    (try simp only [Act.put, List.setIfInBounds_toArray, List.set_cons_zero, List.set_cons_succ])
    refine wpAnyH_take (i := 22) (oi := ⟨some 101, _, _, _, _, _⟩) (v := undef) rfl (by kernel_rfl) (by kernel_rfl) (by kernel_rfl) (fun _ _ _ h => h) (Or.inr ⟨by kernel_rfl, rfl⟩) hHeldB_1 ?_
    (try simp only [Act.put, List.setIfInBounds_toArray, List.set_cons_zero, List.set_cons_succ])
    refine wpAnyH_take (i := 23) (oi := ⟨some 102, _, _, _, _, _⟩) (v := undef) rfl (by kernel_rfl) (by kernel_rfl) (by kernel_rfl) (fun _ _ _ h => h) (Or.inr ⟨by kernel_rfl, rfl⟩) hHeldB_1 ?_
    (try simp only [Act.put, List.setIfInBounds_toArray, List.set_cons_zero, List.set_cons_succ])
    refine wpAnyH_take (i := 24) (oi := ⟨some 103, _, _, _, _, _⟩) (v := undef) rfl (by kernel_rfl) (by kernel_rfl) (by kernel_rfl) (fun _ _ _ h => h) (Or.inr ⟨by kernel_rfl, rfl⟩) hHeldB_1 ?_
    (try simp only [Act.put, List.setIfInBounds_toArray, List.set_cons_zero, List.set_cons_succ])
    refine wpAnyH_take (i := 25) (oi := ⟨some 104, _, _, _, _, _⟩) (v := undef) rfl (by kernel_rfl) (by kernel_rfl) (by kernel_rfl) (fun _ _ _ h => h) (Or.inr ⟨by kernel_rfl, rfl⟩) hHeldB_1 ?_
    (try simp only [Act.put, List.setIfInBounds_toArray, List.set_cons_zero, List.set_cons_succ])
    refine wpAnyH_ready (rs := [26]) (by kernel_rfl) (by simp) ?_
    refine AllReadyH.cons (o := ⟨some 105, _, _, _, _, _⟩) rfl (fun K hK => ?_) AllReadyH.nil
    rw [if_neg]
    rotate_left
    ·exact fun h => Bool.noConfusion (h.symm.trans (by kernel_rfl : _ = false))
    refine hK.out _ _ hHeldB_1 (fun hHeldB_2 => ?_)
    clear hK K hHeldB_1
    (try simp only [Act.put, List.setIfInBounds_toArray, List.set_cons_zero, List.set_cons_succ])
    refine wpAnyH_take (i := 27) (oi := ⟨some 106, _, _, _, _, _⟩) (v := undef) rfl (by kernel_rfl) (by kernel_rfl) (by kernel_rfl) (fun _ _ _ h => h) (Or.inr ⟨by kernel_rfl, rfl⟩) hHeldB_2 ?_
    (try simp only [Act.put, List.setIfInBounds_toArray, List.set_cons_zero, List.set_cons_succ])
    refine wpAnyH_take (i := 28) (oi := ⟨some 107, _, _, _, _, _⟩) (v := undef) rfl (by kernel_rfl) (by kernel_rfl) (by kernel_rfl) (fun _ _ _ h => h) (Or.inr ⟨by kernel_rfl, rfl⟩) hHeldB_2 ?_
    (try simp only [Act.put, List.setIfInBounds_toArray, List.set_cons_zero, List.set_cons_succ])
    refine wpAnyH_take (i := 29) (oi := ⟨some 108, _, _, _, _, _⟩) (v := ?vB29) rfl (by kernel_rfl) (by kernel_rfl) (by kernel_rfl) (fun _ _ _ h => h) (Or.inl ⟨by kernel_rfl, ?hyB29⟩) hHeldB_2 ?restB29
    case hyB29 => intro w hSw; (try dsimp only at hSw); go_simp; (try with_reducible rfl)
    (try simp only [Act.put, List.setIfInBounds_toArray, List.set_cons_zero, List.set_cons_succ])
    refine wpAnyH_take (i := 30) (oi := ⟨some 109, _, _, _, _, _⟩) (v := ?vB30) rfl (by kernel_rfl) (by kernel_rfl) (by kernel_rfl) (fun _ _ _ h => h) (Or.inl ⟨by kernel_rfl, ?hyB30⟩) hHeldB_2 ?restB30
    case hyB30 => intro w hSw; (try dsimp only at hSw); go_simp; (try with_reducible rfl)
    (try simp only [Act.put, List.setIfInBounds_toArray, List.set_cons_zero, List.set_cons_succ])
    refine wpAnyH_done (by kernel_rfl) ?_ _
    refine NoPanic.normal ?_
    go_wp2_with fail
    exact ⟨HX.out _ (bthen HWD.out hb10) HMD.out, by have := HMS.out; simp only [intOf]; omega⟩
   | false =>
    rw [hsev] at CSV
    by_cases c1' : tz = 1
    case neg =>
     have g1 : (tz != 1) = true := by rw [bne_iff_ne]; exact c1'
     have g2 : (tz == 1) = false := by rw [beq_eq_false_iff_ne]; exact c1'
     clear hsev
     refine wp_region_noPanic ?_
     refine wp_region_held_drew (S := fun W => W.cell? ⟨w.heap.size, 2, none⟩ = some (.slice (some ⟨kb, ko, none⟩) r.holes.length ch) ∧ W.cell? ⟨kb, ko + h * 2, none⟩ = some (.string kn) ∧ W.cell? ⟨kb, ko + h * 2 + 1, none⟩ = some (.int .u8 (kk : Int))) (by kernel_rfl) (HS1.out _ HWD.out) (fun hHeldC => ?_)
     refine wpAnyH_take (i := 0) (oi := ⟨some 79, _, _, _, _, _⟩) (v := ?vC0) rfl (by kernel_rfl) (by kernel_rfl) (by kernel_rfl) (fun _ _ _ h => h) (Or.inl ⟨by kernel_rfl, ?hyC0⟩) hHeldC ?restC0
     case hyC0 => intro w hSw; (try dsimp only at hSw); go_simp; (try with_reducible rfl)
     (try simp only [Act.put, List.setIfInBounds_toArray, List.set_cons_zero, List.set_cons_succ])
     refine wpAnyH_take (i := 1) (oi := ⟨some 80, _, _, _, _, _⟩) (v := ?vC1) rfl (by kernel_rfl) (by kernel_rfl) (by kernel_rfl) (fun _ _ _ h => h) (Or.inl ⟨by kernel_rfl, ?hyC1⟩) hHeldC ?restC1
     case hyC1 => intro w hSw; (try dsimp only at hSw); go_simp; (try with_reducible rfl)
     (try simp only [Act.put, List.setIfInBounds_toArray, List.set_cons_zero, List.set_cons_succ])
     refine wpAnyH_take (i := 2) (oi := ⟨some 81, _, _, _, _, _⟩) (v := ?vC2) rfl (by kernel_rfl) (by kernel_rfl) (by kernel_rfl) (fun _ _ _ h => h) (Or.inl ⟨by kernel_rfl, ?hyC2⟩) hHeldC ?restC2
     case hyC2 => intro w hSw; (try dsimp only at hSw); go_simp; (try with_reducible rfl)
     (try simp only [Act.put, List.setIfInBounds_toArray, List.set_cons_zero, List.set_cons_succ])
     refine wpAnyH_take (i := 3) (oi := ⟨some 82, _, _, _, _, _⟩) (v := ?vC3) rfl (by kernel_rfl) (by kernel_rfl) (by kernel_rfl) (fun _ _ _ h => h) (Or.inl ⟨by kernel_rfl, ?hyC3⟩) hHeldC ?restC3
     case hyC3 => intro w hSw; (try dsimp only at hSw); go_simp; (try with_reducible rfl)
     (try simp only [Act.put, List.setIfInBounds_toArray, List.set_cons_zero, List.set_cons_succ])
     refine wpAnyH_take (i := 4) (oi := ⟨some 83, _, _, _, _, _⟩) (v := ?vC4) rfl (by kernel_rfl) (by kernel_rfl) (by kernel_rfl) (fun _ _ _ h => h) (Or.inl ⟨by kernel_rfl, ?hyC4⟩) hHeldC ?restC4
     case hyC4 => intro w hSw; (try dsimp only at hSw); go_simp; (try with_reducible rfl)
     (try simp only [Act.put, List.setIfInBounds_toArray, List.set_cons_zero, List.set_cons_succ])
     refine wpAnyH_take (i := 5) (oi := ⟨some 84, _, _, _, _, _⟩) (v := ?vC5) rfl (by kernel_rfl) (by kernel_rfl) (by kernel_rfl) (fun _ _ _ h => h) (Or.inl ⟨by kernel_rfl, ?hyC5⟩) hHeldC ?restC5
     case hyC5 => intro w hSw; (try dsimp only at hSw); go_simp; (try with_reducible rfl)
     (try simp only [Act.put, List.setIfInBounds_toArray, List.set_cons_zero, List.set_cons_succ])
     refine wpAnyH_take (i := 6) (oi := ⟨some 85, _, _, _, _, _⟩) (v := ?vC6) rfl (by kernel_rfl) (by kernel_rfl) (by kernel_rfl) (fun _ _ _ h => h) (Or.inl ⟨by kernel_rfl, ?hyC6⟩) hHeldC ?restC6
     case hyC6 => intro w hSw; (try dsimp only at hSw); go_simp; (try with_reducible rfl)
     (try simp only [Act.put, List.setIfInBounds_toArray, List.set_cons_zero, List.set_cons_succ])
     refine wpAnyH_take (i := 7) (oi := ⟨some 86, _, _, _, _, _⟩) (v := ?vC7) rfl (by kernel_rfl) (by kernel_rfl) (by kernel_rfl) (fun _ _ _ h => h) (Or.inl ⟨by kernel_rfl, ?hyC7⟩) hHeldC ?restC7
     case hyC7 => intro w hSw; (try dsimp only at hSw); go_simp; (try with_reducible rfl)
     (try simp only [Act.put, List.setIfInBounds_toArray, List.set_cons_zero, List.set_cons_succ])
     refine wpAnyH_ready (rs := [8]) (by kernel_rfl) (by simp) ?_
     refine AllReadyH.cons (o := _) rfl (fun K hK => ?_) AllReadyH.nil
     go_simp
     go_at_call 22
     refine (CSV.out _).mono ?_
     rintro e w10 ⟨rfl, hb10⟩
     (try dsimp only)
     refine hK.out _ _ (HS1.out _ (bthen HWD.out hb10)) (fun hHeldC_1 => ?_)
     clear hK K hHeldC
     (try simp only [Act.put, List.setIfInBounds_toArray, List.set_cons_zero, List.set_cons_succ])
     refine wpAnyH_take (i := 9) (oi := ⟨some 88, _, _, _, _, _⟩) (v := ?vC9) rfl (by kernel_rfl) (by kernel_rfl) (by kernel_rfl) (fun _ _ _ h => h) (Or.inl ⟨by kernel_rfl, ?hyC9⟩) hHeldC_1 ?restC9
     case hyC9 => intro w hSw; (try dsimp only at hSw); go_simp; (try with_reducible rfl)
     (try simp only [Act.put, List.setIfInBounds_toArray, List.set_cons_zero, List.set_cons_succ])
     refine wpAnyH_take (i := 10) (oi := ⟨some 89, _, _, _, _, _⟩) (v := ?vC10) rfl (by kernel_rfl) (by kernel_rfl) (by kernel_rfl) (fun _ _ _ h => h) (Or.inl ⟨by kernel_rfl, ?hyC10⟩) hHeldC_1 ?restC10
     case hyC10 => intro w hSw; (try dsimp only at hSw); go_simp; (try with_reducible rfl)
     (try simp only [Act.put, List.setIfInBounds_toArray, List.set_cons_zero, List.set_cons_succ])
     refine wpAnyH_take (i := 11) (oi := ⟨some 90, _, _, _, _, _⟩) (v := ?vC11) rfl (by kernel_rfl) (by kernel_rfl) (by kernel_rfl) (fun _ _ _ h => h) (Or.inl ⟨by kernel_rfl, ?hyC11⟩) hHeldC_1 ?restC11
     case hyC11 => intro w hSw; (try dsimp only at hSw); go_simp; (try with_reducible rfl)
     (try simp only [Act.put, List.setIfInBounds_toArray, List.set_cons_zero, List.set_cons_succ])
     refine wpAnyH_take (i := 12) (oi := ⟨some 91, _, _, _, _, _⟩) (v := ?vC12) rfl (by kernel_rfl) (by kernel_rfl) (by kernel_rfl) (fun _ _ _ h => h) (Or.inl ⟨by kernel_rfl, ?hyC12⟩) hHeldC_1 ?restC12
     case hyC12 => intro w hSw; (try dsimp only at hSw); go_simp; (try with_reducible rfl)
     (try simp only [Act.put, List.setIfInBounds_toArray, List.set_cons_zero, List.set_cons_succ])
     refine wpAnyH_take (i := 13) (oi := ⟨some 92, _, _, _, _, _⟩) (v := ?vC13) rfl (by kernel_rfl) (by kernel_rfl) (by kernel_rfl) (fun _ _ _ h => h) (Or.inl ⟨by kernel_rfl, ?hyC13⟩) hHeldC_1 ?restC13
     case hyC13 => intro w hSw; (try dsimp only at hSw); go_simp; (try with_reducible rfl)
     (try simp only [Act.put, List.setIfInBounds_toArray, List.set_cons_zero, List.set_cons_succ])
     refine wpAnyH_take (i := 14) (oi := ⟨some 93, _, _, _, _, _⟩) (v := undef) rfl (by kernel_rfl) (by kernel_rfl) (by kernel_rfl) (fun _ _ _ h => h) (Or.inr ⟨by kernel_rfl, rfl⟩) hHeldC_1 ?_
     (try simp only [Act.put, List.setIfInBounds_toArray, List.set_cons_zero, List.set_cons_succ])
     refine wpAnyH_take (i := 15) (oi := ⟨some 94, _, _, _, _, _⟩) (v := undef) rfl (by kernel_rfl) (by kernel_rfl) (by kernel_rfl) (fun _ _ _ h => h) (Or.inr ⟨by kernel_rfl, rfl⟩) hHeldC_1 ?_
     (try simp only [Act.put, List.setIfInBounds_toArray, List.set_cons_zero, List.set_cons_succ])
     refine wpAnyH_take (i := 16) (oi := ⟨some 95, _, _, _, _, _⟩) (v := undef) rfl (by kernel_rfl) (by kernel_rfl) (by kernel_rfl) (fun _ _ _ h => h) (Or.inr ⟨by kernel_rfl, rfl⟩) hHeldC_1 ?_
     (try simp only [Act.put, List.setIfInBounds_toArray, List.set_cons_zero, List.set_cons_succ])
     refine wpAnyH_take (i := 17) (oi := ⟨some 96, _, _, _, _, _⟩) (v := undef) rfl (by kernel_rfl) (by kernel_rfl) (by kernel_rfl) (fun _ _ _ h => h) (Or.inr ⟨by kernel_rfl, rfl⟩) hHeldC_1 ?_
     (try simp only [Act.put, List.setIfInBounds_toArray, List.set_cons_zero, List.set_cons_succ])
     refine wpAnyH_take (i := 18) (oi := ⟨some 97, _, _, _, _, _⟩) (v := undef) rfl (by kernel_rfl) (by kernel_rfl) (by kernel_rfl) (fun _ _ _ h => h) (Or.inr ⟨by kernel_rfl, rfl⟩) hHeldC_1 ?_
     (try simp only [Act.put, List.setIfInBounds_toArray, List.set_cons_zero, List.set_cons_succ])
     refine wpAnyH_take (i := 19) (oi := ⟨some 98, _, _, _, _, _⟩) (v := undef) rfl (by kernel_rfl) (by kernel_rfl) (by kernel_rfl) (fun _ _ _ h => h) (Or.inr ⟨by kernel_rfl, rfl⟩) hHeldC_1 ?_
     (try simp only [Act.put, List.setIfInBounds_toArray, List.set_cons_zero, List.set_cons_succ])
     refine wpAnyH_take (i := 20) (oi := ⟨some 99, _, _, _, _, _⟩) (v := undef) rfl (by kernel_rfl) (by kernel_rfl) (by kernel_rfl) (fun _ _ _ h => h) (Or.inr ⟨by kernel_rfl, rfl⟩) hHeldC_1 ?_
     (try simp only [Act.put, List.setIfInBounds_toArray, List.set_cons_zero, List.set_cons_succ])
     refine wpAnyH_take (i := 21) (oi := ⟨some 100, _, _, _, _, _⟩) (v := undef) rfl (by kernel_rfl) (by kernel_rfl) (by kernel_rfl) (fun _ _ _ h => h) (Or.inr ⟨by kernel_rfl, rfl⟩) hHeldC_1 ?_
     (try simp only [Act.put, List.setIfInBounds_toArray, List.set_cons_zero, List.set_cons_succ])
     refine wpAnyH_take (i := 22) (oi := ⟨some 101, _, _, _, _, _⟩) (v := undef) rfl (by kernel_rfl) (by kernel_rfl) (by kernel_rfl) (fun _ _ _ h => h) (Or.inr ⟨by kernel_rfl, rfl⟩) hHeldC_1 ?_
     (try simp only [Act.put, List.setIfInBounds_toArray, List.set_cons_zero, List.set_cons_succ])
     refine wpAnyH_take (i := 23) (oi := ⟨some 102, _, _, _, _, _⟩) (v := undef) rfl (by kernel_rfl) (by kernel_rfl) (by kernel_rfl) (fun _ _ _ h => h) (Or.inr ⟨by kernel_rfl, rfl⟩) hHeldC_1 ?_
     (try simp only [Act.put, List.setIfInBounds_toArray, List.set_cons_zero, List.set_cons_succ])
     refine wpAnyH_take (i := 24) (oi := ⟨some 103, _, _, _, _, _⟩) (v := undef) rfl (by kernel_rfl) (by kernel_rfl) (by kernel_rfl) (fun _ _ _ h => h) (Or.inr ⟨by kernel_rfl, rfl⟩) hHeldC_1 ?_
     (try simp only [Act.put, List.setIfInBounds_toArray, List.set_cons_zero, List.set_cons_succ])
     refine wpAnyH_take (i := 25) (oi := ⟨some 104, _, _, _, _, _⟩) (v := undef) rfl (by kernel_rfl) (by kernel_rfl) (by kernel_rfl) (fun _ _ _ h => h) (Or.inr ⟨by kernel_rfl, rfl⟩) hHeldC_1 ?_
     (try simp only [Act.put, List.setIfInBounds_toArray, List.set_cons_zero, List.set_cons_succ])
     refine wpAnyH_ready (rs := [26]) (by kernel_rfl) (by simp) ?_
     refine AllReadyH.cons (o := ⟨some 105, _, _, _, _, _⟩) rfl (fun K hK => ?_) AllReadyH.nil
     rw [if_neg]
     rotate_left
     ·exact fun h => Bool.noConfusion (h.symm.trans (by kernel_rfl : _ = false))
     refine hK.out _ _ hHeldC_1 (fun hHeldC_2 => ?_)
     clear hK K hHeldC_1
     (try simp only [Act.put, List.setIfInBounds_toArray, List.set_cons_zero, List.set_cons_succ])
     refine wpAnyH_take (i := 27) (oi := ⟨some 106, _, _, _, _, _⟩) (v := undef) rfl (by kernel_rfl) (by kernel_rfl) (by kernel_rfl) (fun _ _ _ h => h) (Or.inr ⟨by kernel_rfl, rfl⟩) hHeldC_2 ?_
     (try simp only [Act.put, List.setIfInBounds_toArray, List.set_cons_zero, List.set_cons_succ])
     refine wpAnyH_take (i := 28) (oi := ⟨some 107, _, _, _, _, _⟩) (v := ?vC28) rfl (by kernel_rfl) (by kernel_rfl) (by kernel_rfl) (fun _ _ _ h => h) (Or.inl ⟨by kernel_rfl, ?hyC28⟩) hHeldC_2 ?restC28
     case hyC28 => intro w hSw; (try dsimp only at hSw); go_simp; (try with_reducible rfl)
     (try simp only [Act.put, List.setIfInBounds_toArray, List.set_cons_zero, List.set_cons_succ])
     refine wpAnyH_take (i := 29) (oi := ⟨some 108, _, _, _, _, _⟩) (v := ?vC29) rfl (by kernel_rfl) (by kernel_rfl) (by kernel_rfl) (fun _ _ _ h => h) (Or.inl ⟨by kernel_rfl, ?hyC29⟩) hHeldC_2 ?restC29
     case hyC29 => intro w hSw; (try dsimp only at hSw); go_simp; (try with_reducible rfl)
     (try simp only [Act.put, List.setIfInBounds_toArray, List.set_cons_zero, List.set_cons_succ])
     refine wpAnyH_take (i := 30) (oi := ⟨some 109, _, _, _, _, _⟩) (v := ?vC30) rfl (by kernel_rfl) (by kernel_rfl) (by kernel_rfl) (fun _ _ _ h => h) (Or.inl ⟨by kernel_rfl, ?hyC30⟩) hHeldC_2 ?restC30
     case hyC30 => intro w hSw; (try dsimp only at hSw); go_simp; (try with_reducible rfl)
     (try simp only [Act.put, List.setIfInBounds_toArray, List.set_cons_zero, List.set_cons_succ])
     refine wpAnyH_done (by kernel_rfl) ?_ _
     refine NoPanic.normal ?_
     have HB10 := Lib.hid (bthen HBD.out hb10)
     clear hb10
     go_wp2_with fail
     refine (CF.out w10 HB10.out).mono ?_
     rintro e wZ ⟨rfl, hbZ⟩
     have HX := Lib.hid (HQ.out wZ (bthen HB10.out hbZ))
     clear hbZ
     go_wp2_with fail
     exact HX.out
    have hk := HKK.out
    have hql := HONE.out c1'
    subst c1'
    have hk5 : 1 ≤ kk ∧ kk ≤ 5 := by unfold isSev at hsev; simp at hsev; omega
    have hka : kindAt l f < 256 ∧ kindAt l f = (l[f]).1 := by
     have e : kindAt l f = (l[f]).1 := by unfold kindAt; rw [List.getElem?_eq_getElem hql]
     exact ⟨by rw [e]; exact (HL.out.2 _ (List.getElem_mem hql)).1, e⟩
    have CM := Lib.hid (fun W => ref_May17 kk (kindAt l f) hk5.1 hk5.2 hka.1 W)
    obtain ⟨lb, lo, rfl, y1, y2, y3, y4⟩ := HR.out.at HBD.out (show 0 < l.length by omega)
    clear y1 y2 y3 y4
    have HS2 : RowKit.Hid (∀ W, Below wx.heap.size wx W → W.cell? ⟨w.heap.size, 2, none⟩ = some (.slice (some ⟨kb, ko, none⟩) r.holes.length ch) ∧ W.cell? ⟨kb, ko + h * 2, none⟩ = some (.string kn) ∧ W.cell? ⟨kb, ko + h * 2 + 1, none⟩ = some (.int .u8 (kk : Int)) ∧ W.cell? ⟨gx, 1, none⟩ = some (.int .i64 (f : Int)) ∧ W.cell? ⟨lb, lo + f * 3, none⟩ = some (.int .u8 (kindAt l f : Int))) := Lib.hid fun W hb => ⟨HE2.out W (bthen HWX.out hb), (HCH.out W (bthen HWX.out hb)).1, (HCH.out W (bthen HWX.out hb)).2, by
     have := keeps hb HGX.out
     simp [World.cell?, this], by
     obtain ⟨b2, o2, e', _, _, _, hcc⟩ := HR.out.at (bthen HBX.out hb) (show 0 < l.length by omega)
     simp only [Option.some.injEq, Addr.mk.injEq, and_true] at e'
     obtain ⟨rfl, rfl⟩ := e'
     rw [hka.2]
     exact (hcc f hql).1⟩
    have HDD : RowKit.Hid (Below wx.heap.size wx wx.drew) := Lib.hid (Below.refl _ _).drew
    have hq1l : (f : Int) < l.length := by omega
    have hq1c : (f : Int) < (cl : Int) := by omega
    have HMD := Lib.hid (fun (hm : mayB kk (kindAt l f) = true) => HMA.out ⟨⟨by omega, by omega, by omega⟩, by omega, fun _ => ⟨rfl, hm⟩⟩)
    clear hsev hk hk5 hka hql HS1 HMA
    generalize kindAt l f = ka at *
    cases hmay : mayB kk ka with
    | true =>
     rw [hmay] at CM HMD
     have HMD := Lib.hid (HMD.out rfl)
     clear hmay
     go_region_held3 (fun W => W.cell? ⟨w.heap.size, 2, none⟩ = some (.slice (some ⟨kb, ko, none⟩) r.holes.length ch) ∧ W.cell? ⟨kb, ko + h * 2, none⟩ = some (.string kn) ∧ W.cell? ⟨kb, ko + h * 2 + 1, none⟩ = some (.int .u8 (kk : Int)) ∧ W.cell? ⟨gx, 1, none⟩ = some (.int .i64 (f : Int)) ∧ W.cell? ⟨lb, lo + f * 3, none⟩ = some (.int .u8 (ka : Int))) (first | exact HS2.out _ HDD.out | exact HS2.out _ (bthen HDD.out hb10)) (first | (go_at_call 22; (with_reducible refine (CSV.out _).mono ?_); (rintro e w10 ⟨rfl, hb10⟩); (try dsimp only)) | (go_at_call 23; (with_reducible refine (CM.out _).mono ?_); (rintro e w11 ⟨rfl, rfl⟩); (try dsimp only)))
     all_goals
      go_wp2_with fail
      exact ⟨HX.out _ (bthen HWX.out (bthen HDD.out hb10)) HMD.out, by have := HMS.out; simp only [intOf]; omega⟩
    | false =>
     rw [hmay] at CM
     clear hmay HMD
     go_region_held3 (fun W => W.cell? ⟨w.heap.size, 2, none⟩ = some (.slice (some ⟨kb, ko, none⟩) r.holes.length ch) ∧ W.cell? ⟨kb, ko + h * 2, none⟩ = some (.string kn) ∧ W.cell? ⟨kb, ko + h * 2 + 1, none⟩ = some (.int .u8 (kk : Int)) ∧ W.cell? ⟨gx, 1, none⟩ = some (.int .i64 (f : Int)) ∧ W.cell? ⟨lb, lo + f * 3, none⟩ = some (.int .u8 (ka : Int))) (first | exact HS2.out _ HDD.out | exact HS2.out _ (bthen HDD.out hb10)) (first | (go_at_call 22; (with_reducible refine (CSV.out _).mono ?_); (rintro e w10 ⟨rfl, hb10⟩); (try dsimp only)) | (go_at_call 23; (with_reducible refine (CM.out _).mono ?_); (rintro e w11 ⟨rfl, rfl⟩); (try dsimp only)))
     all_goals
      have HB10 := Lib.hid (bthen HBX.out (bthen HDD.out hb10))
      clear hb10
      go_wp2_with fail
      refine (CF.out w10 HB10.out).mono ?_
      rintro e wZ ⟨rfl, hbZ⟩
      have HX := Lib.hid (HQ.out wZ (bthen HB10.out hbZ))
      clear hbZ
      go_wp2_with fail
      exact HX.out
  ·obtain rfl : h = bs.length := by omega
   obtain ⟨hbi, hrw, hwI, τ, hτ⟩ := made_inst HZ.out HW.out HN.out HMK.out
   have hH := rule_holes HZ.out
   have hf0 := well_zero hH.1.well
   have hok : InOK r.fnd l r.holes bs := ⟨hH.1, HN.out, hbi, hrw, HS.out.f.1, hll, hhl⟩
   have HTOT := Lib.hid (mPart_total r.fnd r.holes (bOf bs) l hH.1)
   have HBW := Lib.hid (bthen HB4.out HBR.out)
   have CMD := Lib.hid (law17_made r HS.out _ _ _ l hll bs HN.out hbi _ wr (HIN.out.below HBW.out) (HRB.out.below HBW.out))
   unfold ruleAgg at CMD
   have CI := Lib.hid (fun W (hb : Below w.heap.size w W) (hlen : (mPart r.fnd l r.holes (bOf bs) (fuelZ r.fnd) 0).length ≤ 1000000000) => show Calls Tryz.prog 24 #[.slice af r.fnd.length cf, .slice ah r.holes.length ch, .slice aq bs.length cq, .slice al l.length cl, .int .i64 0] W (instPost (mPart r.fnd l r.holes (bOf bs) (fuelZ r.fnd) 0) W) from ref_Inst hok _ _ _ _ (fuelZ r.fnd) W 0 ⟨HIN.out.F.below hb, HIN.out.H.below hb, HRB.out.below hb, HR.out.below hb⟩ hf0.1 (by rw [hf0.2]; unfold fuelZ; omega) hlen)
   have HSM := Lib.hid (fun (h : (mPart r.fnd l r.holes (bOf bs) (fuelZ r.fnd) 0).length ≤ 1048576) => inst_small HS.out.f HL.out h)
   have HWI := Lib.hid hwI
   have HTA := Lib.hid hτ
   have hhb : ¬ (bs.length : Int) < bs.length := by omega
   clear hbi hrw hwI hτ hH hf0 hok
   go_wp2_with fail
   refine CMD.out.mono ?_
   intro e w5 h5
   unfold madePost at h5
   obtain ⟨x, rfl, hx, hb5⟩ := h5
   have HB5 := Lib.hid (bthen HBW.out hb5)
   have HR5 := Lib.hid ((HR4.out.below HBR.out).below hb5)
   clear hb5 CMD e0 e1 e2 e3 e4
   obtain ⟨e0, e1, e2, e3, e4⟩ := HR5.out.cells
   by_cases h3 : 3000 < x
   ·clear hx
    go_wp2_with fail
    refine (CF.out w5 HB5.out).mono ?_
    rintro e wZ ⟨rfl, hbZ⟩
    have HX := Lib.hid (HQ.out wZ (bthen HB5.out hbZ))
    clear hbZ
    go_wp2_with fail
    exact HX.out
   have hML : (mPart r.fnd l r.holes (bOf bs) (fuelZ r.fnd) 0).length ≤ 3000 := by
    have h1 := hx (by omega)
    have h2 := HTOT.out
    omega
   clear hx HTOT
   have CI1 := Lib.hid (CI.out w5 HB5.out (by omega))
   have HSI := Lib.hid (HSM.out (by omega))
   clear CI HSM
   generalize mPart r.fnd l r.holes (bOf bs) (fuelZ r.fnd) 0 = MM at *
   go_wp2_with fail
   refine CI1.out.mono ?_
   intro e w6 h6
   unfold instPost at h6
   obtain ⟨v1, v2, rfl, hb6, ho1, ho2⟩ := h6
   have hr1 : PartRow w6 v1 (MM.map (·.1)) := by
    unfold PartRow
    rw [List.length_map]
    exact Row.of_owns ho1
   have hIl : (MM.map (·.1)).length ≤ 3000 := by rw [List.length_map]; exact hML
   obtain ⟨a2, c2, rfl, _⟩ := Row.shape (Row.of_owns ho2)
   clear ho1 ho2 hML CI1
   generalize MM.map (·.1) = I at *
   obtain ⟨a1, c1, rfl, _⟩ := hr1.slice
   have HB6 := Lib.hid (bthen HB5.out hb6)
   have HR6 := Lib.hid (HR5.out.below hb6)
   have HI6 := Lib.hid hr1
   clear hb6 hr1 HR5 e0 e1 e2 e3 e4
   obtain ⟨e0, e1, e2, e3, e4⟩ := HR6.out.cells
   have CY := Lib.hid (ref_Ways17 r HS.out.h.1 _ _ _ I (by omega) _ w6 (HIN.out.below HB6.out) HI6.out)
   unfold ruleAgg at CY
   go_wp2_with fail
   refine CY.out.mono ?_
   intro e w7 h7
   obtain ⟨z, rfl, hb7⟩ := h7.out
   have HB7 := Lib.hid (bthen HB6.out hb7)
   have HR7 := Lib.hid (HR6.out.below hb7)
   have HI7 := Lib.hid (HI6.out.below hb7)
   clear h7 hb7 CY HR6 e0 e1 e2 e3 e4
   obtain ⟨e0, e1, e2, e3, e4⟩ := HR7.out.cells
   by_cases hz : 100000 < z
   ·go_wp2_with fail
    refine (CF.out w7 HB7.out).mono ?_
    rintro e wZ ⟨rfl, hbZ⟩
    have HX := Lib.hid (HQ.out wZ (bthen HB7.out hbZ))
    clear hbZ
    go_wp2_with fail
    exact HX.out
   have hta : atZ r I 0 = some τ := HTA.out
   have CA := Lib.hid (at_flat r HS.out _ _ _ I HSI.out _ 0 w7 (HH.out.T.below HB7.out) (HH.out.M.below HB7.out) (HIN.out.below HB7.out) HI7.out)
   unfold ruleAgg at CA
   unfold FlatP at CA
   rw [hta] at CA
   simp only [bndO, Option.isSome_some] at CA
   have hbl := (binds_small hta (by omega)).1
   have HFI := Lib.hid (found_inst hta)
   have HFH := Lib.hid (fun k (hk : k < r.holes.length) => found_hole HTA.out hk)
   have HAG := Lib.hid (made_again HWI.out HTA.out)
   have HEI := Lib.hid (well_zero HWI.out)
   clear hta HTA
   generalize bindsOf r.holes τ = B at *
   rw [hbl] at CA
   have HBL := Lib.hid hbl
   clear hbl
   go_wp2_with fail
   refine CA.out.mono ?_
   rintro e w8 ⟨qa, qc, rfl, hqc, hbr, hb8⟩
   have HB8 := Lib.hid (bthen HB7.out hb8)
   have HR8 := Lib.hid (HR7.out.below hb8)
   have HI8 := Lib.hid (HI7.out.below hb8)
   have HO8 := Lib.hid hbr
   clear hbr hb8 CA HR7 e0 e1 e2 e3 e4
   obtain ⟨e0, e1, e2, e3, e4⟩ := HR8.out.cells
   go_wp2_with fail
   clear e0 e1 e2 e3 e4
   go_loopw [14] (fun hv wr => mmRel2 r.holes.length w8 hv wr) (fun hv _ => r.holes.length - (intOf hv).toNat)
   case atStart => exact ⟨0, rfl, Nat.zero_le _, Below.refl _ _⟩
   case round =>
    obtain ⟨k, rfl, hk, hb⟩ := hrel
    have HBS := Lib.hid hb
    clear hb
    by_cases hlt2 : k < r.holes.length
    ·obtain ⟨q1, q2, nn, ⟨hb', eb⟩, g1, g2, g3, g4, _⟩ := HFH.out k hlt2
     rw [HEI.out.2] at g3
     obtain ⟨bb, bo, rfl, y1, y2, y3, y4⟩ := HO8.out.at HBS.out (show 0 < B.length by omega)
     have hcc := y4 k hb'
     rw [eb] at hcc
     obtain ⟨b0, b1, b2⟩ := hcc
     clear y1 y2 y3 y4
     obtain ⟨p2, c2', hs2, hr2⟩ := slice_piece w8 _ I HI8.out q1 q2 g2 (by omega)
     have hpl2 : (piece I q1 q2).length ≤ 3000 := by unfold piece; rw [List.length_take, List.length_drop]; omega
     have CT := Lib.hid (ref_Trees11 (piece I q1 q2) (by omega) _ _ (hr2.below HBS.out.drew))
     rw [g4] at CT
     have hh0 : (0 : Int) ≤ (k : Int) := by omega
     have hhl' : (k : Int) < r.holes.length := by omega
     have hhb' : (k : Int) < (qc : Int) := by omega
     have f1 : ¬ (q1 : Int) < 0 := by omega
     have f2 : ¬ (q2 : Int) < (q1 : Int) := by omega
     have f3 : ¬ (I.length : Int) < (q2 : Int) := by omega
     have f4 : (q1 : Int) ≤ (q2 : Int) := by omega
     have f5 : (q2 : Int) ≤ I.length := by omega
     have f6 : (0 : Int) ≤ (q1 : Int) := by omega
     have f7 : ¬ (nn : Int) < 0 := by omega
     have hwh : IntKind.i64.wrap ((k : Int) + 1) = (k : Int) + 1 := by rw [IntKind.wrap_i64]; omega
     have HX : RowKit.Hid (mmRel2 r.holes.length w8 (.int .i64 ((k : Int) + 1)) wr.drew) := Lib.hid ⟨k + 1, by push_cast; rfl, hlt2, HBS.out.drew⟩
     have HMS : RowKit.Hid (r.holes.length - (k + 1) < r.holes.length - k) := Lib.hid (by omega)
     clear g1 g2 g3 g4 hb' eb hr2 hpl2
     go_upto_region 23 with (fail)
     go_still_tail 42, (by kernel_rfl)
     go_wp2_with fail
     refine CT.out.mono ?_
     rintro e w9 ⟨rfl, rfl⟩
     clear b0 b1 b2 CT hs2
     go_wp2_with fail
     exact ⟨HX.out, by have := HMS.out; simp only [intOf]; omega⟩
    ·obtain rfl : k = r.holes.length := by omega
     have hH := rule_holes HZ.out
     have hf0 := well_zero hH.1.well
     have hok : InOK r.fnd I r.holes B := ⟨hH.1, HBL.out, HFI.out.1, HFI.out.2.1, HS.out.f.1, by omega, hhl⟩
     have HBV := Lib.hid (bthen HB8.out HBS.out)
     obtain ⟨e0, e1, e2, e3, e4⟩ := (HR8.out.below HBS.out).cells
     have hml := congrArg List.length HAG.out
     rw [List.length_map] at hml
     have CI : RowKit.Hid (Calls Tryz.prog 24 #[.slice af r.fnd.length cf, .slice ah r.holes.length ch, .slice qa r.holes.length qc, .slice a1 I.length c1, .int .i64 0] wr (instPost (mPart r.fnd I r.holes (bOf B) (fuelZ r.fnd) 0) wr)) := Lib.hid (ref_Inst hok _ _ _ _ (fuelZ r.fnd) wr 0 ⟨HIN.out.F.below HBV.out, HIN.out.H.below HBV.out, HO8.out.below HBS.out, HI8.out.below HBS.out⟩ hf0.1 (by rw [hf0.2]; unfold fuelZ; omega) (by omega))
     have hhn : ¬ (r.holes.length : Int) < r.holes.length := by omega
     clear hH hf0 hok hml HFI HFH
     generalize mPart r.fnd I r.holes (bOf B) (fuelZ r.fnd) 0 = M2 at *
     go_wp2_with fail
     refine CI.out.mono ?_
     intro e w10 h10
     unfold instPost at h10
     obtain ⟨v3, v4, rfl, hb10, ho3, ho4⟩ := h10
     have hr3 : PartRow w10 v3 I := by
      unfold PartRow
      rw [← HAG.out, List.length_map]
      exact Row.of_owns ho3
     obtain ⟨a3, c3, rfl, _⟩ := hr3.slice
     obtain ⟨a4, c4, rfl, _⟩ := Row.shape (Row.of_owns ho4)
     have HB10 := Lib.hid (bthen HBV.out hb10)
     have CS := Lib.hid (fun W (hb : Below w10.heap.size w10 W) => ref_Same11 _ _ I I (by omega) (by omega) W (HI8.out.below (bthen HBS.out (bthen hb10 hb))) (hr3.below hb))
     clear hb10 ho3 ho4 hr3 CI e0 e1 e2 e3 e4
     go_wp2_with fail
     refine (CF.out w10 HB10.out).mono ?_
     rintro e w11 ⟨rfl, hb11⟩
     have HB11 := Lib.hid hb11
     clear hb11
     go_wp2_with fail
     refine (CS.out w11 HB11.out).mono ?_
     rintro e w12 ⟨x', rfl, ht, hb12⟩
     obtain rfl := ht.2 rfl
     have HX := Lib.hid (HQ.out w12 (bthen HB10.out (bthen HB11.out hb12)))
     clear ht hb12 CS
     go_wp2_with fail
     exact HX.out
end Go.Proofs.YtlkheofphafofaaGreatDoor
