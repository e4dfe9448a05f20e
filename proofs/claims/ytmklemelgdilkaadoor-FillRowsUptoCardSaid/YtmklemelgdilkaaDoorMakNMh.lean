/- Layer 20: the maker's closure where no hole stands, and the closure whole. -/
import Derived.Test.YtmklemelgdilkaaDoorMakMMh
namespace Go.Proofs.YtmklemelgdilkaaDoor
set_option linter.all false
attribute [local irreducible] Calls
attribute [local irreducible] wpStill
open Go.RowKit

theorem KpC.setO {g : Nat} {ov nv ov' nv' : Value} {W W' : World} (h : KpC g ov nv ov' nv' W W') {b : Nat} (hb : ov'.ownBlock = some b) (j : Nat) (u : Value) : KpC g ov nv ov' nv' W (W'.setCell ⟨b, j, none⟩ u) :=
 ⟨h.os, h.tape, h.output, by have := h.size; simpa using this, fun k h1 h2 h3 h4 => by
  rw [heap_setCell_other _ _ _ _ (show k ≠ b from fun e => by
   subst e
   rcases h.no k hb with e | e
   ·exact h3 e
   ·omega)]
  exact h.low k h1 h2 h3 h4, h.no, h.nn⟩
theorem partsV_kids (A B : List Prt) (k : Nat) (n m : Int) (s : ByteArray) : (partsV (A ++ (k, n, s) :: B)).set (A.length * 3 + 1) (.int .i64 m) = partsV (A ++ (k, m, s) :: B) := by
 rw [partsV_append, partsV_append, List.set_append_right _ _ (by rw [partsV_length]; omega), partsV_length, show A.length * 3 + 1 - A.length * 3 = 1 by omega]
 rfl
theorem partsV_kcell (A B : List Prt) (k : Nat) (n : Int) (s : ByteArray) : (partsV (A ++ (k, n, s) :: B))[A.length * 3 + 1]? = some (.int .i64 n) := by
 rw [partsV_append, List.getElem?_append_right (by rw [partsV_length]; omega), partsV_length, show A.length * 3 + 1 - A.length * 3 = 1 by omega]
 rfl
theorem MkIn.kids {w0 W : World} {E : MkE} {A B : List PN} {k : Nat} {n : Int} {s : ByteArray} {z : Int} {lg : Bool} {g c : Nat} {fv : Value} (h : MkIn w0 E (A ++ ((k, n, s), z) :: B) lg (.slice (some ⟨g, 0, none⟩) (A ++ ((k, n, s), z) :: B).length c) fv W) (m : Int) :
  W.cell? ⟨g, A.length * 3 + 1, none⟩ = some (.int .i64 n) ∧ W.frozen? ⟨g, A.length * 3 + 1, none⟩ = false ∧ MkIn w0 E (A ++ ((k, m, s), z) :: B) lg (.slice (some ⟨g, 0, none⟩) (A ++ ((k, n, s), z) :: B).length c) fv (W.setCell ⟨g, A.length * 3 + 1, none⟩ (.int .i64 m)) := by
 have ho := h.o
 have hl : (A ++ ((k, n, s), z) :: B).length = A.length + B.length + 1 := by rw [List.length_append, List.length_cons]; omega
 have hl2 : (A ++ ((k, m, s), z) :: B).length = A.length + B.length + 1 := by rw [List.length_append, List.length_cons]; omega
 have hc : W.cell? ⟨g, A.length * 3 + 1, none⟩ = some (.int .i64 n) := by
  rw [ho.cellAt _ (by omega), List.map_append, List.map_cons]
  have := partsV_kcell (A.map (·.1)) (B.map (·.1)) k n s
  rwa [List.length_map] at this
 have hg := ho.lt g rfl
 have hgB := h.gB
 have hg0 := h.g0
 have hz : W.frozen? ⟨g, A.length * 3 + 1, none⟩ = false := by
  rcases ho.2 with ⟨hv, _⟩ | ⟨g', c', cur, hv, _, hh, _⟩
  ·cases hv
  ·simp only [Value.slice.injEq, Option.some.injEq, Addr.mk.injEq, and_true] at hv
   obtain ⟨rfl, _⟩ := hv
   simp [World.frozen?, hh]
 have o2 := owns_set ho (A.length * 3 + 1) (by rw [partsV_length, List.length_map]; omega) (.int .i64 m)
 rw [List.map_append, List.map_cons] at o2
 have e2 := partsV_kids (A.map (·.1)) (B.map (·.1)) k n m s
 rw [List.length_map] at e2
 rw [e2] at o2
 refine ⟨hc, hz, ⟨h.b.setCell (p := ⟨g, _, none⟩) (by show _ ≤ g; omega) _, ?_, ?_, ?_, h.g0, h.gB, by simpa using h.B⟩⟩
 ·unfold mkB
  rw [heap_setCell_other _ _ _ _ (show E.g ≠ g by omega)]; exact h.s
 ·rw [List.map_append, List.map_cons, hl2]
  rwa [hl] at o2 ⊢
 ·have hf := h.f
  have e3 : (A ++ ((k, n, s), z) :: B).map (·.2) = (A ++ ((k, m, s), z) :: B).map (·.2) := by rw [List.map_append, List.map_append]; rfl
  rw [e3, hl] at hf
  rw [hl2]
  exact ownsRow_setCell_other hf (a := ⟨g, A.length * 3 + 1, none⟩) (owns_ne ho h.f (by decide) rfl) _
def wnRel (w0 : World) (E : MkE) (n q : Nat) (kp : Nat → Nat) (pend : Nat) (x0 : PN) (MK : List PN) (out : List PN) (lg : Bool) (ov fv : Value) (W : World) (nv kv : Value) (wr : World) : Prop :=
 ∃ (c N : Nat) (M : List PN) (us : List Nat) (out' : List PN) (lg' : Bool) (ov' fv' : Value), nv = .int .i64 (us.length : Int) ∧ kv = .int .i64 (kp c : Int) ∧ c ≤ q ∧ M ++ mKids E.r.by' E.l E.r.holes (bOf E.bs) N (kp c) pend = MK ∧ 2 * (pend - kp c) + 1 ≤ N ∧ N ≤ n ∧ rowsB (M.map (·.1)) = some us ∧ mkGo out lg (x0 :: M) out' lg' ∧ out'.length ≤ 131073 ∧ MkIn w0 E out' lg' ov' fv' wr ∧ KpC E.g ov fv ov' fv' W wr
set_option maxRecDepth 100000 in
set_option maxHeartbeats 16000000 in
theorem wk_none (w0 : World) (E : MkE) (F : MkF w0 E) (gm gy gw : Nat) (vy : Value) (n : Nat) (ih : ∀ m, m < n + 1 → WalkC w0 E gm gy gw vy m) (W : World) (out : List PN) (lg : Bool) (ov fv : Value) (p : Nat) (hi : MkIn w0 E out lg ov fv W) (hw : WkS E gm gy gw vy W) (hn : out.length ≤ 131073) (hp : p < E.r.by'.length) (hfuel : 2 * (endB E.r.by' p - p) ≤ n + 1) (hlen : (mkM E (n + 1) p).length ≤ 2000000000000) (ho : holeOf E.r.by' E.r.holes p = none) :
  Calls Tryd.prog 29 #[.int .i64 (p : Int), .pointer (some ⟨gm, 0, none⟩), .pointer (some ⟨gy, 0, none⟩), .pointer (some ⟨gw, 0, none⟩)] W (mkPost w0 E out lg ov fv (mkM E (n + 1) p) W fun u => u = .int .i64 (cntP ((mkM E (n + 1) p).map (·.1)) : Int)) := by
 have hone := mPart_one (t := E.r.by') (hs := E.r.holes) (bOf_in (right_in F.rt)) (right_rows F.rt) (n := n) ho hp
 obtain ⟨MK, hMK⟩ : ∃ MK, mKids E.r.by' E.l E.r.holes (bOf E.bs) n (p + 1) (endB E.r.by' p) = MK := ⟨_, rfl⟩
 have hmk : mkM E (n + 1) p = (((E.r.by'[p]).1, (cntP (MK.map (·.1)) : Int), (E.r.by'[p]).2.2), -1) :: MK := by rw [← hMK]; exact mp_none ho hp
 rw [show cntP ((mkM E (n + 1) p).map (·.1)) = 1 from hone]
 rw [hmk] at hlen ⊢
 have HBY := (rule_holes F.rz).2.1
 obtain ⟨q, kp, KS⟩ := kid_seq (well_rows HBY.well) hp
 have hyl := F.sr.b.1
 have hgf := endB_gt (well_rows HBY.well) hp
 have HYES : RowKit.Hid (∀ w' out' lg' ov' fv', mkGo out lg ((((E.r.by'[p]).1, (cntP (MK.map (·.1)) : Int), (E.r.by'[p]).2.2), -1) :: MK) out' lg' → out'.length ≤ 131073 → MkIn w0 E out' lg' ov' fv' w' → KpC E.g ov fv ov' fv' W w' → mkPost w0 E out lg ov fv ((((E.r.by'[p]).1, (cntP (MK.map (·.1)) : Int), (E.r.by'[p]).2.2), -1) :: MK) W (fun u => u = .int .i64 ((1 : Nat) : Int)) (.returned (.int .i64 1)) w') := Lib.hid fun w' out' lg' ov' fv' h1 h2 h3 h4 => by
  unfold mkPost; exact ⟨out', lg', ov', fv', _, rfl, rfl, h1, h2, h3, h4⟩
 have C1 := Lib.hid (mk_hole w0 E F out lg ov fv W hi p hp)
 have CP := Lib.hid (fun W out lg ov fv (hi : MkIn w0 E out lg ov fv W) hn p nf => mk_put w0 E out lg ov fv W hi hn p nf)
 obtain ⟨ya, yc, hvy, hyc⟩ := F.Y.slice
 have HYR : RowKit.Hid (PartRow w0 (.slice ya E.r.by'.length yc) E.r.by') := Lib.hid (hvy ▸ F.Y)
 obtain ⟨va, vc, rfl, hvc, hvo⟩ := hw.r.open'
 obtain ⟨eb, eo, rfl, _, _⟩ := hvo (by rw [endsL_length]; omega)
 clear hvo
 rw [endsL_length] at hvc
 obtain ⟨oa, oc, rfl, hoc⟩ := Row.shape (Row.of_owns hi.o)
 have hcm := hw.cells.1
 have HI := Lib.hid hi
 have HWK := Lib.hid hw
 have HIH := Lib.hid ih
 have HKS := Lib.hid KS
 have HMK := Lib.hid hMK
 have HFU := Lib.hid hfuel
 have HLN := Lib.hid hlen
 have HRB := Lib.hid (bOf_in (right_in F.rt))
 have HRV := Lib.hid (right_rows F.rt)
 have hqn := KS.n
 generalize mkPost w0 E out lg (.slice oa out.length oc) fv ((((E.r.by'[p]).1, (cntP (MK.map (·.1)) : Int), (E.r.by'[p]).2.2), -1) :: MK) W (fun u => u = .int .i64 ((1 : Nat) : Int)) = Q at *
 clear hi hw F ih KS hMK hfuel hlen hone hmk
 go_enter Tryd.func29, Tryd.ntmps29
 go_wp2_with fail
 refine C1.out.mono ?_
 intro e w1 h1
 unfold mkHolePost at h1
 rw [ho] at h1
 obtain ⟨hb1, rfl⟩ := h1
 unfold bindA
 clear hcm C1
 have HB2 : RowKit.Hid (Below W.heap.size W (w1.alloc (.cells #[.string ⟨#[]⟩, .int .i64 0, .int .i64 0] 53))) := Lib.hid (hb1.alloc hb1.size _)
 clear hb1
 go_upto_region 9 with (fail)
 generalize w1.alloc (.cells #[.string ⟨#[]⟩, .int .i64 0, .int .i64 0] 53) = W2 at *
 have HI2 := Lib.hid (HI.out.below HB2.out)
 have HW2 := Lib.hid (HWK.out.below HB2.out)
 obtain ⟨m0, m1, m2⟩ := HW2.out.cells
 obtain ⟨c0, c1, c2, c3, c4, c5, c6, c7, c8, c9, c10, cz⟩ := HI2.out.s.cells
 clear c0 c1 c2 c3 c4 c5 c6 c7 c9 c10 cz m1 m2
 obtain ⟨yb, yo, rfl, y1, y2, y3, y4⟩ := HYR.out.at HI2.out.b (show 0 < E.r.by'.length by omega)
 clear y1 y2 y3 y4
 have HYC : RowKit.Hid (∀ W', Below w0.heap.size w0 W' → W'.cell? ⟨yb, yo + p * 3, none⟩ = some (.int .u8 ((E.r.by'[p]).1 : Int)) ∧ W'.cell? ⟨yb, yo + p * 3 + 1, none⟩ = some (.int .i64 (E.r.by'[p]).2.1) ∧ W'.cell? ⟨yb, yo + p * 3 + 2, none⟩ = some (.string (E.r.by'[p]).2.2)) := Lib.hid fun W' hb => by
  obtain ⟨b2, o2, e', _, _, _, hcc⟩ := HYR.out.at hb (show 0 < E.r.by'.length by omega)
  simp only [Option.some.injEq, Addr.mk.injEq, and_true] at e'
  obtain ⟨rfl, rfl⟩ := e'
  exact hcc p hp
 have HBS : RowKit.Hid (∀ W' o2 l2 v2 f2, MkIn w0 E o2 l2 v2 f2 W' → KpC E.g (.slice oa out.length oc) fv v2 f2 W2.drew W' → (W'.cell? ⟨gm, 0, none⟩ = some (.pointer (some ⟨E.g, 0, none⟩)) ∧ W'.cell? ⟨E.g, 4, none⟩ = some (.slice (some ⟨yb, yo, none⟩) E.r.by'.length yc) ∧ W'.cell? ⟨yb, yo + p * 3, none⟩ = some (.int .u8 ((E.r.by'[p]).1 : Int)) ∧ W'.cell? ⟨yb, yo + p * 3 + 1, none⟩ = some (.int .i64 (E.r.by'[p]).2.1) ∧ W'.cell? ⟨yb, yo + p * 3 + 2, none⟩ = some (.string (E.r.by'[p]).2.2))) := Lib.hid fun W' o2 l2 v2 f2 h3 h4 => ⟨((HW2.out.below (Below.refl _ _).drew).kc (HI2.out.below (Below.refl _ _).drew) h4).cells.1, by rw [h3.s.cells.2.2.2.2.1, hvy], HYC.out W' h3.b⟩
 have CP2 := Lib.hid (CP.out W2.drew out lg _ fv (HI2.out.below (Below.refl _ _).drew) hn E.r.by'[p] (-1))
 have HBS0 := Lib.hid (HBS.out _ _ _ _ _ (HI2.out.below (Below.refl _ _).drew) (KpC.refl _ _ _ _))
 have hp0 : (0 : Int) ≤ (p : Int) := by omega
 have hpl : (p : Int) < E.r.by'.length := by omega
 have hpyc : (p : Int) < yc := by omega
 have hwp : IntKind.i64.wrap ((p : Int) + 1) = (p : Int) + 1 := by rw [IntKind.wrap_i64]; omega
 unfold partA at CP2
 clear CP
 generalize hbp : E.r.by'[p] = pp at *
 clear hbp
 obtain ⟨pk, pn, pw⟩ := pp
 simp only [] at HBS CP2 HYES HYC HBS0
 go_upto_region 10 with (fail)
 clear m0 c8
 go_region_held3 (fun W' => W'.cell? ⟨gm, 0, none⟩ = some (.pointer (some ⟨E.g, 0, none⟩)) ∧ W'.cell? ⟨E.g, 4, none⟩ = some (.slice (some ⟨yb, yo, none⟩) E.r.by'.length yc) ∧ W'.cell? ⟨yb, yo + p * 3, none⟩ = some (.int .u8 (pk : Int)) ∧ W'.cell? ⟨yb, yo + p * 3 + 1, none⟩ = some (.int .i64 pn) ∧ W'.cell? ⟨yb, yo + p * 3 + 2, none⟩ = some (.string pw)) (first | exact HBS0.out | exact HB6.out) ((go_at_call 31; (with_reducible refine CP2.out.mono ?_); (intro e w6 h6; obtain ⟨o1, l1, v1, f1, u, rfl, _, hgo1, hol1, hi1, hk1⟩ := h6.out; have HB6 := Lib.hid (HBS.out w6 o1 l1 v1 f1 hi1 hk1); (try dsimp only))))
 have HGO1 := Lib.hid hgo1
 have HI1 := Lib.hid hi1
 have HK1 := Lib.hid (((KpC.of_below HB2.out).trans (KpC.of_below (Below.refl _ _).drew)).trans hk1)
 clear hgo1 hi1 hk1 h6 HB6 HBS HBS0 CP2
 go_wp2_with fail
 go_loopw [12, 13] (fun nv kv wr => wnRel w0 E n q kp (endB E.r.by' p) ((pk, pn, pw), -1) MK out lg (.slice oa out.length oc) fv W nv kv wr) (fun _ kv _ => endB E.r.by' p - (intOf kv).toNat)
 case atStart => exact ⟨0, n, [], [], o1, l1, v1, f1, rfl, by rw [HKS.out.z]; push_cast; rfl, Nat.zero_le _, by rw [HKS.out.z]; exact HMK.out, by rw [HKS.out.z]; have := HFU.out; omega, Nat.le_refl _, rowsB_nil, HGO1.out, hol1, HI1.out, HK1.out⟩
 case round =>
  obtain ⟨c, N, M, us, out', lg', ov', fv', rfl, rfl, hc, hM, hN, hNn, hus, hgo, hol, hii, hkk⟩ := hrel
  have HM := Lib.hid hM
  have HUS := Lib.hid hus
  have HN := Lib.hid hN
  have HNN := Lib.hid hNn
  have HGO := Lib.hid hgo
  have HII := Lib.hid hii
  have HKK := Lib.hid hkk
  clear hM hN hNn hus hgo hii hkk
  obtain ⟨N, rfl⟩ : ∃ N', N = N' + 1 := ⟨N - 1, by have := HN.out; omega⟩
  have HWW := Lib.hid (HWK.out.kc HI.out HKK.out)
  obtain ⟨m0, m1, m2⟩ := HWW.out.cells
  obtain ⟨eb2, eo2, e', y1, y2, hce⟩ := ints_at HWW.out.r (Below.refl _ _) (by rw [endsL_length]; omega)
  simp only [Option.some.injEq, Addr.mk.injEq, and_true] at e'
  obtain ⟨rfl, rfl⟩ := e'
  clear y1 y2
  have cp := hce _ _ (endsL_get (l := E.r.by') (j := p) hp)
  rw [endsL_length] at m1
  by_cases hlt : c < q
  case neg =>
   obtain rfl : c = q := by omega
   have hkq := HKS.out.e
   have hM := HM.out
   rw [hkq, mk_end, List.append_nil] at hM
   have hcn : cntP (MK.map (·.1)) = us.length := by rw [← hM]; exact cntP_of HUS.out
   rw [hcn] at HYES
   rw [hM] at HGO
   have hkq' : ¬ (kp c : Int) < (endB E.r.by' p : Int) := by rw [hkq]; omega
   obtain ⟨c0, c1, c2, c3, c4, c5, c6, c7, c8, c9, c10, cz⟩ := HII.out.s.cells
   clear c0 c1 c2 c3 c4 c5 c6 c7 c9 cz hce hM
   cases lg' with
   | true =>
    have HX := Lib.hid (HYES.out wr out' true ov' fv' (HGO.out.same (by simp)) hol HII.out HKK.out)
    clear c8
    generalize kp c = kc at *
    generalize endB E.r.by' p = ei at *
    go_wp2_with fail
    exact HX.out
   | false =>
    obtain ⟨hlg, hlen2⟩ : lg = false ∧ out.length + (((pk, pn, pw), (-1 : Int)) :: MK).length ≤ 131073 := by
     apply Classical.byContradiction
     intro h
     have := HGO.out.2 h
     cases this
    obtain ⟨_, rfl⟩ := HGO.out.1 ⟨hlg, hlen2⟩
    obtain ⟨oa2, on2, oc2, hov⟩ := owns_slice HII.out.o
    subst hov
    obtain rfl : on2 = (out ++ ((pk, pn, pw), (-1 : Int)) :: MK).length := by
     obtain ⟨_, _, _, e, _⟩ := Row.of_owns HII.out.o
     simp only [Value.slice.injEq] at e
     exact e.2.1
    obtain ⟨gO, rfl⟩ := ownsRow_some HII.out.o (by simp; omega)
    have hoc2 : (out ++ ((pk, pn, pw), (-1 : Int)) :: MK).length ≤ oc2 := by
     obtain ⟨_, _, _, e, h, _⟩ := Row.of_owns HII.out.o
     simp only [Value.slice.injEq] at e
     omega
    obtain ⟨k1, k2, k3⟩ := HII.out.kids (us.length : Int)
    have HX := Lib.hid (HYES.out _ _ _ _ _ ⟨fun _ => ⟨rfl, rfl⟩, fun h => absurd ⟨hlg, by simpa using hlen2⟩ h⟩ (by simpa using hol) k3 (HKK.out.setO rfl (out.length * 3 + 1) (.int .i64 (us.length : Int))))
    have hol1 : (out.length : Int) < ((out ++ ((pk, pn, pw), (-1 : Int)) :: MK).length : Int) := by rw [List.length_append, List.length_cons]; push_cast; omega
    have hol2 : (out.length : Int) < (oc2 : Int) := by rw [List.length_append, List.length_cons] at hoc2; omega
    have hol0 : (0 : Int) ≤ (out.length : Int) := by omega
    clear k3 HGO hlen2 hol
    generalize (out ++ ((pk, pn, pw), (-1 : Int)) :: MK).length = on at *
    generalize kp c = kc at *
    generalize endB E.r.by' p = ei at *
    go_wp2_with fail
    exact HX.out
  have hx := HKS.out.lt c hlt
  have hup := HKS.out.up c hlt
  have hle := HKS.out.le (c + 1) hlt
  have hnx := HKS.out.nx c hlt
  have hNo := HN.out
  have hM := HM.out
  rw [mk_next (show kp c ≠ endB E.r.by' p by omega), hnx] at hM
  have hml := congrArg List.length hM
  have hln := HLN.out
  rw [List.length_append, List.length_append] at hml
  rw [List.length_cons] at hln
  have CI := Lib.hid (HIH.out N (by have := HNN.out; omega) wr out' lg' ov' fv' (kp c) HII.out HWW.out hol hx (by rw [hnx]; omega) (by show (mkM E N (kp c)).length ≤ _; unfold mkM; omega))
  obtain ⟨ts, hts⟩ := mPart_rows (t := E.r.by') (hs := E.r.holes) HRB.out HRV.out N (kp c)
  have hcnt : cntP ((mkM E N (kp c)).map (·.1)) = ts.length := cntP_of hts
  rw [hcnt] at CI
  have hul : us.length ≤ 2000000000000 := by
   have h1 := (rowsB_sum HUS.out).2.1
   rw [List.length_map] at h1
   omega
  have htl2 : ts.length ≤ 2000000000000 := by
   have h1 := (rowsB_sum hts).2.1
   rw [List.length_map] at h1
   omega
  have hwu : IntKind.i64.wrap ((us.length : Int) + (ts.length : Int)) = (us.length : Int) + (ts.length : Int) := by rw [IntKind.wrap_i64]; omega
  have HXX : RowKit.Hid (∀ w6 o2 l2 v2 f2, mkGo out' lg' (mkM E N (kp c)) o2 l2 → o2.length ≤ 131073 → MkIn w0 E o2 l2 v2 f2 w6 → KpC E.g ov' fv' v2 f2 wr w6 → wnRel w0 E n q kp (endB E.r.by' p) ((pk, pn, pw), -1) MK out lg (.slice oa out.length oc) fv W (.int .i64 ((us.length : Int) + (ts.length : Int))) (.int .i64 (endB E.r.by' (kp c) : Int)) w6) := Lib.hid fun w6 o2 l2 v2 f2 h1 h2 h3 h4 => ⟨c + 1, N, M ++ mkM E N (kp c), us ++ ts, o2, l2, v2, f2, by rw [List.length_append]; push_cast; rfl, by rw [hnx], hlt, by rw [List.append_assoc]; exact hM, by omega, by have := HNN.out; omega, by rw [List.map_append]; exact rowsB_app HUS.out hts, by rw [← List.cons_append]; exact HGO.out.app h1, h2, h3, HKK.out.trans h4⟩
  have HRC : RowKit.Hid (∀ w6 o2 l2 v2 f2, MkIn w0 E o2 l2 v2 f2 w6 → KpC E.g ov' fv' v2 f2 wr w6 → w6.cell? ⟨gy, 0, none⟩ = some (.slice (some ⟨eb, eo, none⟩) E.r.by'.length vc) ∧ w6.cell? ⟨eb, eo + kp c, none⟩ = some (.int .i64 (endB E.r.by' (kp c) : Int))) := Lib.hid fun w6 o2 l2 v2 f2 h3 h4 => by
   have hw6 := HWW.out.kc HII.out h4
   obtain ⟨eb2, eo2, e', _, _, hce2⟩ := ints_at hw6.r (Below.refl _ _) (by rw [endsL_length]; omega)
   simp only [Option.some.injEq, Addr.mk.injEq, and_true] at e'
   obtain ⟨rfl, rfl⟩ := e'
   refine ⟨?_, hce2 _ _ (endsL_get (l := E.r.by') (j := kp c) hx)⟩
   have := hw6.cells.2.1
   rwa [endsL_length] at this
  have hms : RowKit.Hid (endB E.r.by' p - endB E.r.by' (kp c) < endB E.r.by' p - kp c) := Lib.hid (by rw [hnx]; omega)
  have hke : (kp c : Int) < (endB E.r.by' p : Int) := by omega
  have hk0 : (0 : Int) ≤ (kp c : Int) := by omega
  have hkl : (kp c : Int) < E.r.by'.length := by omega
  have hkv : (kp c : Int) < vc := by omega
  clear hx hup hle hnx hNo hM hml hln HM HN hts hcnt hce
  generalize endB E.r.by' (kp c) = ek at *
  generalize kp c = kc at *
  generalize endB E.r.by' p = ei at *
  go_wp2_with fail
  refine CI.out.mono ?_
  intro e w6 h6
  obtain ⟨o2, l2, v2, f2, u, rfl, rfl, hgo2, hol2, hi2, hk2⟩ := h6.out
  have HX := Lib.hid (HXX.out w6 o2 l2 v2 f2 hgo2 hol2 hi2 hk2)
  obtain ⟨g1, g2⟩ := HRC.out w6 o2 l2 v2 f2 hi2 hk2
  clear hgo2 hi2 hk2 h6 m0 m1 m2 cp
  go_wp2_with fail
  exact ⟨HX.out, by have := hms.out; simp only [intOf]; omega⟩
theorem wk_all (w0 : World) (E : MkE) (F : MkF w0 E) (gm gy gw : Nat) (vy : Value) : ∀ n, WalkC w0 E gm gy gw vy n := by
 intro n
 induction n using Nat.strongRecOn with
 | ind n ih =>
  intro W out lg ov fv p hi hw hn hp hf hlen
  have hg := (endB_gt (well_rows (rule_holes F.rz).2.1.well) hp).1
  obtain ⟨m, rfl⟩ : ∃ m, n = m + 1 := ⟨n - 1, by omega⟩
  cases ho : holeOf E.r.by' E.r.holes p with
  | some h => exact wk_hole w0 E F gm gy gw vy m W out lg ov fv p hi hw hn hp h ho
  | none => exact wk_none w0 E F gm gy gw vy m ih W out lg ov fv p hi hw hn hp hf hlen ho
end Go.Proofs.YtmklemelgdilkaaDoor
