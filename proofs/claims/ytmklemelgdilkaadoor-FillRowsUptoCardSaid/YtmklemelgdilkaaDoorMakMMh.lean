/- Layer 20: the maker's closure, walked. -/
import Derived.Test.YtmklemelgdilkaaDoorMakHMh
import Derived.Test.YtmklemelgdilkaaDoorMakTMh
import Derived.Test.YtmklemelgdilkaaDoorGuardPMh
namespace Go.Proofs.YtmklemelgdilkaaDoor
set_option linter.all false
attribute [local irreducible] Calls
attribute [local irreducible] wpStill
open Go.RowKit

theorem Row.same2 {w w' : World} {v : Value} {n sz : Nat} {cs : List Value} (h : Row w v n sz cs) (hk : ∀ b, v.ownBlock = some b → b < w.heap.size → b < w'.heap.size ∧ w'.heap[b]? = w.heap[b]?) : Row w' v n sz cs := by
 obtain ⟨h1, a, cap, hv, hc, hz, h2⟩ := h
 refine ⟨h1, a, cap, hv, hc, hz, fun hn => ?_⟩
 obtain ⟨b, off, ha, hlt, hcell⟩ := h2 hn
 subst ha
 obtain ⟨k1, k2⟩ := hk b (by rw [hv]; rfl) hlt
 refine ⟨b, off, rfl, k1, fun i hi => ?_⟩
 rw [← hcell i hi]
 simp only [World.cell?, k2]
structure WkS (E : MkE) (gm gy gw : Nat) (vy : Value) (W : World) : Prop where
 m : W.heap[gm]? = some (.cells #[.pointer (some ⟨E.g, 0, none⟩)] 59 (0, 0))
 y : W.heap[gy]? = some (.cells #[vy] 27 (0, 0))
 w : W.heap[gw]? = some (.cells #[.func (.func 29) #[] #[.pointer (some ⟨gm, 0, none⟩), .pointer (some ⟨gy, 0, none⟩), .pointer (some ⟨gw, 0, none⟩)]] 71 (0, 0))
 r : RowInts W vy .i64 (endsL E.r.by')
 lt : gm < E.B ∧ gy < E.B ∧ gw < E.B ∧ gm ≠ E.g ∧ gy ≠ E.g ∧ gw ≠ E.g
 rb : ∀ b, vy.ownBlock = some b → b < E.B ∧ b ≠ E.g
theorem WkS.below {E : MkE} {gm gy gw : Nat} {vy : Value} {W W' : World} (h : WkS E gm gy gw vy W) (hb : Below W.heap.size W W') : WkS E gm gy gw vy W' :=
 ⟨keeps hb h.m, keeps hb h.y, keeps hb h.w, h.r.below hb, h.lt, h.rb⟩
theorem WkS.kc {w0 : World} {E : MkE} {gm gy gw : Nat} {vy ov fv ov' fv' : Value} {out : List PN} {lg : Bool} {W W' : World} (h : WkS E gm gy gw vy W) (hi : MkIn w0 E out lg ov fv W) (k : KpC E.g ov fv ov' fv' W W') : WkS E gm gy gw vy W' := by
 have key : ∀ b, b < E.B → b ≠ E.g → W'.heap[b]? = W.heap[b]? := fun b h1 h2 => k.low b (by have := hi.B; omega) h2 (fun e => by have := (hi.o.lt b e).1; omega) (fun e => by have := (hi.f.lt b e).1; omega)
 obtain ⟨l1, l2, l3, l4, l5, l6⟩ := h.lt
 refine ⟨by rw [key gm l1 l4]; exact h.m, by rw [key gy l2 l5]; exact h.y, by rw [key gw l3 l6]; exact h.w, Row.same2 h.r fun b e hlt => ⟨Nat.lt_of_lt_of_le hlt k.size, key b (h.rb b e).1 (h.rb b e).2⟩, h.lt, h.rb⟩
theorem WkS.cells {E : MkE} {gm gy gw : Nat} {vy : Value} {W : World} (h : WkS E gm gy gw vy W) : W.cell? ⟨gm, 0, none⟩ = some (.pointer (some ⟨E.g, 0, none⟩)) ∧ W.cell? ⟨gy, 0, none⟩ = some vy ∧ W.cell? ⟨gw, 0, none⟩ = some (.func (.func 29) #[] #[.pointer (some ⟨gm, 0, none⟩), .pointer (some ⟨gy, 0, none⟩), .pointer (some ⟨gw, 0, none⟩)]) := by
 simp [World.cell?, h.m, h.y, h.w]
abbrev mkM (E : MkE) (n p : Nat) : List PN := mPart E.r.by' E.l E.r.holes (bOf E.bs) n p
def WalkC (w0 : World) (E : MkE) (gm gy gw : Nat) (vy : Value) (n : Nat) : Prop := ∀ (W : World) (out : List PN) (lg : Bool) (ov fv : Value) (p : Nat), MkIn w0 E out lg ov fv W → WkS E gm gy gw vy W → out.length ≤ 131073 → p < E.r.by'.length → 2 * (endB E.r.by' p - p) ≤ n → (mkM E n p).length ≤ 2000000000000 →
 Calls Tryd.prog 29 #[.int .i64 (p : Int), .pointer (some ⟨gm, 0, none⟩), .pointer (some ⟨gy, 0, none⟩), .pointer (some ⟨gw, 0, none⟩)] W (mkPost w0 E out lg ov fv (mkM E n p) W fun u => u = .int .i64 (cntP ((mkM E n p).map (·.1)) : Int))
def whRel (w0 : World) (E : MkE) (f t : Nat) (out : List PN) (lg : Bool) (ov fv : Value) (W2 : World) (iv : Value) (wr : World) : Prop :=
 ∃ (i : Nat) (out' : List PN) (lg' : Bool) (ov' fv' : Value), iv = .int .i64 (i : Int) ∧ f ≤ i ∧ i ≤ t ∧ mkGo out lg (srcL E.l f i) out' lg' ∧ out'.length ≤ 131073 ∧ MkIn w0 E out' lg' ov' fv' wr ∧ KpC E.g ov fv ov' fv' W2 wr
theorem mkPost.out {w0 : World} {E : MkE} {out : List PN} {lg : Bool} {ov fv : Value} {M : List PN} {W : World} {v : Value → Prop} {e : Ending} {w' : World} (h : mkPost w0 E out lg ov fv M W v e w') : ∃ out' lg' ov' fv' u, e = .returned u ∧ v u ∧ mkGo out lg M out' lg' ∧ out'.length ≤ 131073 ∧ MkIn w0 E out' lg' ov' fv' w' ∧ KpC E.g ov fv ov' fv' W w' := by
 unfold mkPost at h; exact h
set_option maxRecDepth 100000 in
set_option maxHeartbeats 16000000 in
theorem wk_hole (w0 : World) (E : MkE) (F : MkF w0 E) (gm gy gw : Nat) (vy : Value) (n : Nat) (W : World) (out : List PN) (lg : Bool) (ov fv : Value) (p : Nat) (hi : MkIn w0 E out lg ov fv W) (hw : WkS E gm gy gw vy W) (hn : out.length ≤ 131073) (hp : p < E.r.by'.length) (h : Nat) (ho : holeOf E.r.by' E.r.holes p = some h) :
  Calls Tryd.prog 29 #[.int .i64 (p : Int), .pointer (some ⟨gm, 0, none⟩), .pointer (some ⟨gy, 0, none⟩), .pointer (some ⟨gw, 0, none⟩)] W (mkPost w0 E out lg ov fv (mkM E (n + 1) p) W fun u => u = .int .i64 (cntP ((mkM E (n + 1) p).map (·.1)) : Int)) := by
 have hrow := right_rows F.rt h
 have hin := bOf_in (right_in F.rt) h
 rw [show mkM E (n + 1) p = srcL E.l (bOf E.bs h).1 (bOf E.bs h).2 from mp_hole ho, srcL_fst E.l hin.1 hin.2]
 have hhl : h < E.r.holes.length := (holeOf_inv ho).1
 have hhb : h < E.bs.length := by rw [F.bl]; exact hhl
 obtain ⟨f, t, hf, ht, hft, htl⟩ : ∃ f t : Nat, (E.bs[h]).2.1 = (f : Int) ∧ (E.bs[h]).2.2 = (t : Int) ∧ f ≤ t ∧ t ≤ E.l.length := by
  have := right_in F.rt _ (List.getElem_mem hhb)
  exact ⟨(E.bs[h]).2.1.toNat, (E.bs[h]).2.2.toNat, by omega, by omega, by omega, by omega⟩
 have hbo : bOf E.bs h = (f, t) := by rw [bOf_at hhb, hf, ht]; rfl
 rw [hbo] at hrow ⊢
 simp only [] at hrow ⊢
 obtain ⟨ts, hts⟩ := hrow
 have hll := F.sl.1
 have HYES : RowKit.Hid (∀ w' out' lg' ov' fv', mkGo out lg (srcL E.l f t) out' lg' → out'.length ≤ 131073 → MkIn w0 E out' lg' ov' fv' w' → KpC E.g ov fv ov' fv' W w' → mkPost w0 E out lg ov fv (srcL E.l f t) W (fun u => u = .int .i64 (cntP (piece E.l f t) : Int)) (.returned (.int .i64 (cntP (piece E.l f t) : Int))) w') := Lib.hid fun w' out' lg' ov' fv' h1 h2 h3 h4 => by
  unfold mkPost; exact ⟨out', lg', ov', fv', _, rfl, rfl, h1, h2, h3, h4⟩
 have C1 := Lib.hid (mk_hole w0 E F out lg ov fv W hi p hp)
 have CP := Lib.hid (fun W out lg ov fv (hi : MkIn w0 E out lg ov fv W) hn p nf => mk_put w0 E out lg ov fv W hi hn p nf)
 have CT := Lib.hid (fun W' (hb : Below w0.heap.size w0 W') => fill_trees E.l (by omega) _ (well_rows F.wl) E.ve f t hft htl W' (F.N.below hb))
 have hcn : treesZ (piece E.l f t) = (cntP (piece E.l f t) : Int) := trees_cnt hts
 have hcl : cntP (piece E.l f t) ≤ E.l.length := by
  rw [cntP_of hts]
  have := (rowsB_sum hts).2.1
  have h2 := piece_len hft htl
  omega
 obtain ⟨la, lc, hvl, hlc⟩ := F.L.slice
 have HLR : RowKit.Hid (PartRow w0 (.slice la E.l.length lc) E.l) := Lib.hid (hvl ▸ F.L)
 obtain ⟨ea, ec, hve, hec, _⟩ := F.N.open'
 have hcm := hw.cells.1
 have HI := Lib.hid hi
 have HWK := Lib.hid hw
 have HCN := Lib.hid hcn
 generalize mkPost w0 E out lg ov fv (srcL E.l f t) W (fun u => u = .int .i64 (cntP (piece E.l f t) : Int)) = Q at *
 clear hi hw hts hcn F
 go_enter Tryd.func29, Tryd.ntmps29
 go_wp2_with fail
 refine C1.out.mono ?_
 intro e w1 h1
 unfold mkHolePost at h1
 rw [ho] at h1
 obtain ⟨hb1, hh2, rfl⟩ := h1
 unfold bindA
 rw [hf, ht]
 generalize (E.bs[h]).1 = bn
 have HB1 := Lib.hid hb1
 clear hb1 C1 hcm
 have HB2 : RowKit.Hid (Below W.heap.size W (w1.alloc (.cells #[.string bn, .int .i64 (f : Int), .int .i64 (t : Int)] 53))) := Lib.hid (HB1.out.alloc HB1.out.size _)
 have HD2 : RowKit.Hid (BdK (w1.alloc (.cells #[.string bn, .int .i64 (f : Int), .int .i64 (t : Int)] 53)) w1.heap.size (bn, (f : Int), (t : Int))) := Lib.hid (heap_alloc_new _ _)
 have hg1 : W.heap.size ≤ w1.heap.size := HB1.out.size
 go_upto_region 3 with (fail)
 generalize w1.alloc (.cells #[.string bn, .int .i64 (f : Int), .int .i64 (t : Int)] 53) = W2 at *
 generalize w1.heap.size = g2 at *
 have HI2 := Lib.hid (HI.out.below HB2.out)
 have HW2 := Lib.hid (HWK.out.below HB2.out)
 have hgg : E.g < W.heap.size := keeps_lt HI.out.s
 have hg2 : g2 < W2.heap.size := keeps_lt HD2.out
 have HG2 : RowKit.Hid (g2 ≠ E.g ∧ ov.ownBlock ≠ some g2 ∧ fv.ownBlock ≠ some g2) := Lib.hid ⟨by omega, fun e => by have := (HI.out.o.lt _ e).2; omega, fun e => by have := (HI.out.f.lt _ e).2; omega⟩
 obtain ⟨b0, b1, b2⟩ := HD2.out.cells
 simp only [] at b0 b1 b2
 go_wp2_with fail
 clear b0 b1 b2
 go_loopw [8] (fun iv wr => whRel w0 E f t out lg ov fv W2 iv wr) (fun iv _ => t - (intOf iv).toNat)
 case atStart => exact ⟨f, out, lg, ov, fv, rfl, Nat.le_refl _, hft, by rw [srcL_nil E.l (Nat.le_refl f)]; exact mkGo.nil out lg hn, hn, HI2.out, KpC.refl _ _ _ _⟩
 case round =>
  obtain ⟨i, out', lg', ov', fv', rfl, hfi, hit, hgo, hol, hii, hkk⟩ := hrel
  have HGO := Lib.hid hgo
  have HII := Lib.hid hii
  have HKK := Lib.hid hkk
  clear hgo hii hkk
  have HWW := Lib.hid (HW2.out.kc HI2.out HKK.out)
  have HDD : RowKit.Hid (BdK wr g2 (bn, (f : Int), (t : Int))) := Lib.hid (by
   have h := HD2.out
   unfold BdK at *
   rw [HKK.out.low g2 hg2 HG2.out.1 HG2.out.2.1 HG2.out.2.2]; exact h)
  obtain ⟨b0, b1, b2⟩ := HDD.out.cells
  simp only [] at b0 b1 b2
  obtain ⟨m0, m1, m2⟩ := HWW.out.cells
  clear m1 m2
  obtain ⟨c0, c1, c2, c3, c4, c5, c6, c7, c8, c9, c10, cz⟩ := HII.out.s.cells
  clear c0 c1 c2 c3 c4 c7 c8 c9 cz
  rw [hvl] at c5
  rw [hve] at c6
  have HFIN : RowKit.Hid (mkGo out lg (srcL E.l f t) out' lg' → ∀ w', Below wr.heap.size wr w' → Q (.returned (.int .i64 (cntP (piece E.l f t) : Int))) w') := Lib.hid fun h w' hb => HYES.out w' out' lg' ov' fv' h hol (HII.out.below hb) (((KpC.of_below HB2.out).trans HKK.out).trans (KpC.of_below hb))
  by_cases hlt : i < t ∧ lg' = false
  case neg =>
   have HFI := Lib.hid (HFIN.out (by
    by_cases e : i < t
    ·have : lg' = true := by
      cases lg' with
      | true => rfl
      | false => exact absurd ⟨e, rfl⟩ hlt
     subst this
     rw [srcL_add E.l hfi hit]
     exact HGO.out.long
    ·obtain rfl : i = t := by omega
     exact HGO.out))
   have HBS : RowKit.Hid (∀ W', Below wr.heap.size wr W' → (W'.cell? ⟨gm, 0, none⟩ = some (.pointer (some ⟨E.g, 0, none⟩)) ∧ W'.cell? ⟨E.g, 6, none⟩ = some (.slice ea (endsL E.l).length ec) ∧ W'.cell? ⟨g2, 1, none⟩ = some (.int .i64 (f : Int)) ∧ W'.cell? ⟨g2, 2, none⟩ = some (.int .i64 (t : Int)))) := Lib.hid fun W' hb => ⟨(HWW.out.below hb).cells.1, by rw [(HII.out.below hb).s.cells.2.2.2.2.2.2.1, hve], (HDD.out.keep hb).cells.2.1, (HDD.out.keep hb).cells.2.2⟩
   have CT2 := Lib.hid (CT.out wr.drew (bthen HII.out.b (Below.refl _ _).drew))
   rw [hve] at CT2
   have hcase : lg' = true ∨ ¬ (i : Int) < (t : Int) := by
    cases lg' with
    | true => exact Or.inl rfl
    | false => exact Or.inr (fun h => hlt ⟨by omega, rfl⟩)
   clear hlt
   have hwn := HCN.out
   have HTT := Lib.hid hwn
   have HRUN : RowKit.Hid (∀ w', Below wr.heap.size wr w' → Q (.returned (.int .i64 (cntP (piece E.l f t) : Int))) w') := Lib.hid HFI.out
   clear hwn HGO hit hfi
   rcases hcase with rfl | hni
   ·by_cases hlt : (i : Int) < (t : Int)
    all_goals
     go_upto_region 7 with (fail)
     clear b0 b1 b2 m0 c5 c6 c10
     go_region_held3 (fun W' => W'.cell? ⟨gm, 0, none⟩ = some (.pointer (some ⟨E.g, 0, none⟩)) ∧ W'.cell? ⟨E.g, 6, none⟩ = some (.slice ea (endsL E.l).length ec) ∧ W'.cell? ⟨g2, 1, none⟩ = some (.int .i64 (f : Int)) ∧ W'.cell? ⟨g2, 2, none⟩ = some (.int .i64 (t : Int))) (exact HBS.out _ (Below.refl _ _).drew) ((go_at_call 26; (with_reducible refine CT2.out.mono ?_); (rintro e w5 ⟨⟨k, x, hkl, rfl, h1, h2⟩, rfl⟩); (try dsimp only)))
     have hkx : k = cntP (piece E.l f t) := by
      cases x with
      | true => have := h1 rfl; have := HTT.out; omega
      | false => have := h2 rfl; have := HTT.out; omega
     have HX := Lib.hid (HRUN.out wr.drew (Below.refl _ _).drew)
     rw [← hkx] at HX
     clear hkx h1 h2
     go_wp2_with fail
     exact HX.out
   ·go_upto_region 7 with (fail)
    clear b0 b1 b2 m0 c5 c6 c10
    go_region_held3 (fun W' => W'.cell? ⟨gm, 0, none⟩ = some (.pointer (some ⟨E.g, 0, none⟩)) ∧ W'.cell? ⟨E.g, 6, none⟩ = some (.slice ea (endsL E.l).length ec) ∧ W'.cell? ⟨g2, 1, none⟩ = some (.int .i64 (f : Int)) ∧ W'.cell? ⟨g2, 2, none⟩ = some (.int .i64 (t : Int))) (exact HBS.out _ (Below.refl _ _).drew) ((go_at_call 26; (with_reducible refine CT2.out.mono ?_); (rintro e w5 ⟨⟨k, x, hkl, rfl, h1, h2⟩, rfl⟩); (try dsimp only)))
    have hkx : k = cntP (piece E.l f t) := by
     cases x with
     | true => have := h1 rfl; have := HTT.out; omega
     | false => have := h2 rfl; have := HTT.out; omega
    have HX := Lib.hid (HRUN.out wr.drew (Below.refl _ _).drew)
    rw [← hkx] at HX
    clear hkx h1 h2
    go_wp2_with fail
    exact HX.out
  obtain ⟨hlt, rfl⟩ := hlt
  have hll1 : i < E.l.length := by omega
  obtain ⟨lb, lo, rfl, y1, y2, y3, y4⟩ := HLR.out.at HII.out.b (show 0 < E.l.length by omega)
  clear y1 y2 y3 y4
  have hpt : ptAt E.l i = E.l[i] := by unfold ptAt; simp [List.getD_eq_getElem?_getD, hll1]
  have HBS : RowKit.Hid (∀ W', Below wr.heap.size wr W' → (W'.cell? ⟨gm, 0, none⟩ = some (.pointer (some ⟨E.g, 0, none⟩)) ∧ W'.cell? ⟨E.g, 5, none⟩ = some (.slice (some ⟨lb, lo, none⟩) E.l.length lc) ∧ W'.cell? ⟨lb, lo + i * 3, none⟩ = some (.int .u8 ((ptAt E.l i).1 : Int)) ∧ W'.cell? ⟨lb, lo + i * 3 + 1, none⟩ = some (.int .i64 (ptAt E.l i).2.1) ∧ W'.cell? ⟨lb, lo + i * 3 + 2, none⟩ = some (.string (ptAt E.l i).2.2))) := Lib.hid fun W' hb => ⟨(HWW.out.below hb).cells.1, by rw [(HII.out.below hb).s.cells.2.2.2.2.2.1, hvl], by
   obtain ⟨b2, o2, e', _, _, _, hcc⟩ := HLR.out.at (bthen HII.out.b hb) (show 0 < E.l.length by omega)
   simp only [Option.some.injEq, Addr.mk.injEq, and_true] at e'
   obtain ⟨rfl, rfl⟩ := e'
   rw [hpt]
   exact hcc i hll1⟩
  have HBF : RowKit.Hid (∀ W' o2 l2 v2 f2, MkIn w0 E o2 l2 v2 f2 W' → KpC E.g ov' fv' v2 f2 wr.drew W' → (W'.cell? ⟨gm, 0, none⟩ = some (.pointer (some ⟨E.g, 0, none⟩)) ∧ W'.cell? ⟨E.g, 5, none⟩ = some (.slice (some ⟨lb, lo, none⟩) E.l.length lc) ∧ W'.cell? ⟨lb, lo + i * 3, none⟩ = some (.int .u8 ((ptAt E.l i).1 : Int)) ∧ W'.cell? ⟨lb, lo + i * 3 + 1, none⟩ = some (.int .i64 (ptAt E.l i).2.1) ∧ W'.cell? ⟨lb, lo + i * 3 + 2, none⟩ = some (.string (ptAt E.l i).2.2))) := Lib.hid fun W' o2 l2 v2 f2 h3 h4 => ⟨((HWW.out.below (Below.refl _ _).drew).kc (HII.out.below (Below.refl _ _).drew) h4).cells.1, by rw [h3.s.cells.2.2.2.2.2.1, hvl], by
   obtain ⟨b2, o2, e', _, _, _, hcc⟩ := HLR.out.at h3.b (show 0 < E.l.length by omega)
   simp only [Option.some.injEq, Addr.mk.injEq, and_true] at e'
   obtain ⟨rfl, rfl⟩ := e'
   rw [hpt]
   exact hcc i hll1⟩
  have CP2 := Lib.hid (CP.out wr.drew out' false ov' fv' (HII.out.below (Below.refl _ _).drew) hol (ptAt E.l i) (i : Int))
  have HX0 : RowKit.Hid (∀ w6 o2 l2 v2 f2, mkGo out' false [(ptAt E.l i, (i : Int))] o2 l2 → o2.length ≤ 131073 → MkIn w0 E o2 l2 v2 f2 w6 → KpC E.g ov' fv' v2 f2 wr.drew w6 → whRel w0 E f t out lg ov fv W2 (.int .i64 ((i : Int) + 1)) w6) := Lib.hid fun w6 o2 l2 v2 f2 h1 h2 h3 h4 => ⟨i + 1, o2, l2, v2, f2, by push_cast; rfl, by omega, hlt, by rw [srcL_snoc E.l hfi]; exact HGO.out.app h1, h2, h3, (HKK.out.trans (KpC.of_below (Below.refl _ _).drew)).trans h4⟩
  have hi0 : (0 : Int) ≤ (i : Int) := by omega
  have hil : (i : Int) < E.l.length := by omega
  have hic : (i : Int) < lc := by omega
  have hiti : (i : Int) < (t : Int) := by omega
  unfold partA at CP2
  clear hpt HFIN CP CT HCN HGO hve hcl HKK
  generalize ptAt E.l i = pp at *
  obtain ⟨pk, pn, pw⟩ := pp
  simp only [] at HBS CP2 HBF
  go_upto_region 6 with (fail)
  clear b0 b1 b2 m0 c5 c6 c10
  go_region_held3 (fun W' => W'.cell? ⟨gm, 0, none⟩ = some (.pointer (some ⟨E.g, 0, none⟩)) ∧ W'.cell? ⟨E.g, 5, none⟩ = some (.slice (some ⟨lb, lo, none⟩) E.l.length lc) ∧ W'.cell? ⟨lb, lo + i * 3, none⟩ = some (.int .u8 (pk : Int)) ∧ W'.cell? ⟨lb, lo + i * 3 + 1, none⟩ = some (.int .i64 pn) ∧ W'.cell? ⟨lb, lo + i * 3 + 2, none⟩ = some (.string pw)) (first | exact HBS.out _ (Below.refl _ _).drew | exact HB6.out) ((go_at_call 31; (with_reducible refine CP2.out.mono ?_); (intro e w6 h6; obtain ⟨o2, l2, v2, f2, u, rfl, _, hgo2, hol2, hi2, hk2⟩ := h6.out; have HB6 := Lib.hid (HBF.out w6 o2 l2 v2 f2 hi2 hk2)); (try dsimp only)))
  have HX := Lib.hid (HX0.out w6 o2 l2 v2 f2 hgo2 hol2 hi2 hk2)
  clear hgo2 hi2 hk2 h6
  go_wp2_with fail
  exact ⟨HX.out, by simp only [intOf]; omega⟩
end Go.Proofs.YtmklemelgdilkaaDoor
