/- Layer 20: the maker's make, walked. -/
import Derived.Test.YtmklemelgdilkaaDoorMakNMh
import Derived.Laws.EntriesVeiled
import Derived.Test.YtmklemelgdilkaaDoorRuleCMh
import Derived.Test.YtmklemelgdilkaaDoorMapSMh
namespace Go.Proofs.YtmklemelgdilkaaDoor
set_option linter.all false
attribute [local irreducible] Calls
attribute [local irreducible] wpStill
open Go.RowKit

@[irreducible] def madePost (w0 : World) (E : MkE) (e : Ending) (w' : World) : Prop :=
 ∃ ov fv, ∃ k : Int, e = .returned (.int .i64 k) ∧ Below w0.heap.size w0 w' ∧ mkB E ov fv (decide (131072 < (outP E.r E.l E.bs).length)) w' ∧ ((outP E.r E.l E.bs).length ≤ 131072 → k = treesP E.r E.l E.bs ∧ ∀ W', Above w0.heap.size w' W' → PartRow W' ov ((outP E.r E.l E.bs).map (·.1)) ∧ RowInts W' fv .i64 ((outP E.r E.l E.bs).map (·.2)))
theorem made_len {w0 : World} {E : MkE} (F : MkF w0 E) : (madeP E.r E.l E.bs).length ≤ 2000000000000 := by
 have H := (rule_holes F.rz).2.1
 have h0 := well_zero H.well
 have h := mPart_len (t := E.r.by') (l := E.l) (hs := E.r.holes) (b := bOf E.bs) H (m := E.l.length) (fun h => by have := bOf_in (right_in F.rt) h; omega) (n := fuelZ E.r.by') (p := 0) h0.1 (by rw [h0.2]; unfold fuelZ; omega)
 have h1 := F.sr.b.1
 have h2 := F.sl.1
 have h3 : E.r.by'.length * (E.l.length + 1) ≤ 1048576 * 1048577 := Nat.mul_le_mul h1 (by omega)
 exact Nat.le_trans h (by omega)
theorem top_made {w0 : World} {E E' : MkE} (F : MkF w0 E) (hE : E' = { E with B := E'.B }) {out' : List PN} {lg' : Bool} (hgo : mkGo [] false (madeP E.r E.l E.bs) out' lg') {e : Ending} {w' : World} (h : topPost w0 E' out' lg' e w') : madePost w0 E e w' := by
 unfold topPost at h
 obtain ⟨ov, fv, long, k, rfl, hb, hs, h1, h2⟩ := h
 have hs' : mkB E ov fv long w' := by rw [hE] at hs; exact hs
 have hol := outP_len F.rz E.l E.bs
 have hgl : E'.r = E.r := by rw [hE]
 have hone := fun hg => made_one F.rz hg F.rt (right_rows F.rt)
 by_cases hm : (madeP E.r E.l E.bs).length ≤ 131073
 ·obtain ⟨rfl, rfl⟩ := hgo.1 ⟨rfl, by simpa using hm⟩
  rw [List.nil_append] at h2
  obtain ⟨g1, g2, g3⟩ := h2 rfl
  have ho : outT E' (madeP E.r E.l E.bs) = outP E.r E.l E.bs := by unfold outT outP; rw [hgl]
  rw [ho] at g1 g3
  have hl : long = decide (131072 < (outP E.r E.l E.bs).length) := by
   rw [g1]
   by_cases c : 131072 < (outP E.r E.l E.bs).length
   ·rw [decide_eq_true c, decide_eq_true (by omega)]
   ·rw [decide_eq_false c, decide_eq_false (by omega)]
  unfold madePost
  refine ⟨ov, fv, k, rfl, hb, by rw [← hl]; exact hs', fun _ => ⟨?_, g3⟩⟩
  rw [g2, hgl]
  by_cases hg : E.r.goal = 3
  ·rw [if_pos hg]
   obtain ⟨x, M, e1, e2, e3⟩ := made_root F.rz hg E.l E.bs
   obtain ⟨ts, hts⟩ := trees_out F.rz (right_in F.rt) (right_rows F.rt)
   unfold treesP
   rw [trees_cnt hts, e3, e1]
   exact e2
  ·rw [if_neg hg, hone hg]
 ·have hlg := hgo.2 (fun c => hm (by simpa using c.2))
  have := h1 hlg
  subst this
  have hl : 131072 < (outP E.r E.l E.bs).length := by split at hol <;> omega
  unfold madePost
  exact ⟨ov, fv, k, rfl, hb, by rw [decide_eq_true hl]; exact hs', fun c => by omega⟩
set_option maxRecDepth 100000 in
set_option maxHeartbeats 16000000 in
theorem mk_make (w0 : World) (E : MkE) (F : MkF w0 E) (W : World) (hi : MkIn w0 E [] false (.slice none 0 0) (.slice none 0 0) W) :
  Calls Tryd.prog 22 #[.pointer (some ⟨E.g, 0, none⟩)] W (madePost w0 E) := by
 have HM := Lib.hid (fun (E' : MkE) hE out' lg' hgo e w' h => top_made (E' := E') (out' := out') (lg' := lg') (e := e) (w' := w') F hE hgo h)
 have HBY := (rule_holes F.rz).2.1
 have hyl := F.sr.b.1
 have CE := Lib.hid (fun W' (hb : Below w0.heap.size w0 W') => fill_ends E.r.by' (by omega) _ (well_rows HBY.well) E.vy W' (F.Y.below hb))
 obtain ⟨ya, yc, hvy, hyc⟩ := F.Y.slice
 have HF := Lib.hid F
 have HI := Lib.hid hi
 have hgl := keeps_lt hi.s
 generalize madePost w0 E = Q at *
 clear hi F
 go_enter Tryd.func22, Tryd.ntmps22
 have HB1 : RowKit.Hid (Below W.heap.size W (W.alloc (.cells #[.pointer (some ⟨E.g, 0, none⟩)] 59))) := Lib.hid ((Below.refl _ _).alloc (Nat.le_refl _) _)
 have HG1 : RowKit.Hid ((W.alloc (.cells #[.pointer (some ⟨E.g, 0, none⟩)] 59)).heap[W.heap.size]? = some (.cells #[.pointer (some ⟨E.g, 0, none⟩)] 59 (0, 0))) := Lib.hid (heap_alloc_new _ _)
 go_upto_region 1 with (fail)
 generalize W.alloc (.cells #[.pointer (some ⟨E.g, 0, none⟩)] 59) = W1 at *
 have m0 : W1.cell? ⟨W.heap.size, 0, none⟩ = some (.pointer (some ⟨E.g, 0, none⟩)) := by simp [World.cell?, HG1.out]
 have HI1 := Lib.hid (HI.out.below HB1.out)
 obtain ⟨c0, c1, c2, c3, c4, c5, c6, c7, c8, c9, c10, cz⟩ := HI1.out.s.cells
 clear c0 c1 c2 c3 c5 c6 c7 c8 c9 c10 cz
 have CE1 := Lib.hid (CE.out W1 HI1.out.b)
 rw [hvy] at c4 CE1
 go_wp2_with fail
 refine CE1.out.mono ?_
 intro e w2 h2
 unfold ends2Post at h2
 obtain ⟨vy, rfl, hb2, ho2⟩ := h2
 obtain ⟨a2, n2, cc2, rfl⟩ := owns_slice ho2
 have HB2 := Lib.hid hb2
 have HO2 := Lib.hid ho2
 clear hb2 ho2 c4 m0 CE CE1
 have HB3 := Lib.hid ((Below.refl w2.heap.size w2).alloc (Nat.le_refl _) (.cells #[.slice a2 n2 cc2] 27))
 have HG3 : RowKit.Hid ((w2.alloc (.cells #[.slice a2 n2 cc2] 27)).heap[w2.heap.size]? = some (.cells #[.slice a2 n2 cc2] 27 (0, 0))) := Lib.hid (heap_alloc_new _ _)
 go_upto_region 2 with (fail)
 generalize w2.alloc (.cells #[.slice a2 n2 cc2] 27) = W3 at *
 have HB4 := Lib.hid ((Below.refl W3.heap.size W3).alloc (Nat.le_refl _) (.cells #[.nilFunc] 71))
 have HG4 : RowKit.Hid ((W3.alloc (.cells #[.nilFunc] 71)).heap[W3.heap.size]? = some (.cells #[.nilFunc] 71 (0, 0))) := Lib.hid (heap_alloc_new _ _)
 go_upto_region 3 with (fail)
 generalize W3.alloc (.cells #[.nilFunc] 71) = W4 at *
 have cw : W4.cell? ⟨W3.heap.size, 0, none⟩ = some .nilFunc := by simp [World.cell?, HG4.out]
 have zw : W4.frozen? ⟨W3.heap.size, 0, none⟩ = false := by simp [World.frozen?, HG4.out]
 -- the whole memory behind the closure's making
 have HS : RowKit.Hid (∀ W5, W5 = W4.setCell ⟨W3.heap.size, 0, none⟩ (.func (.func 29) #[] #[.pointer (some ⟨W.heap.size, 0, none⟩), .pointer (some ⟨w2.heap.size, 0, none⟩), .pointer (some ⟨W3.heap.size, 0, none⟩)]) → MkIn w0 { E with B := W5.heap.size } [] false (.slice none 0 0) (.slice none 0 0) W5 ∧ WkS { E with B := W5.heap.size } W.heap.size w2.heap.size W3.heap.size (.slice a2 n2 cc2) W5) := Lib.hid fun W5 h5 => by
  have l1 := HB1.out.size
  have l2 := HB2.out.size
  have l3 := HB3.out.size
  have l4 := keeps_lt HG4.out
  have k1 := keeps_lt HG1.out
  have k3 := keeps_lt HG3.out
  have hs : W5.heap.size = W4.heap.size := by rw [h5]; simp
  have b14 : Below W1.heap.size W1 W4 := bthen (bthen HB2.out HB3.out) HB4.out
  have b04 : Below W.heap.size W W4 := bthen HB1.out b14
  have bs : Below W3.heap.size W4 W5 := by rw [h5]; exact (Below.refl _ _).setCell (p := ⟨W3.heap.size, 0, none⟩) (Nat.le_refl _) _
  have b05 : Below W.heap.size W W5 := b04.trans (bs.mono (by omega))
  have b15 : Below W1.heap.size W1 W5 := b14.trans (bs.mono (by omega))
  have b25 : Below w2.heap.size w2 W5 := (bthen HB3.out HB4.out).trans (bs.mono (by omega))
  have b35 : Below W3.heap.size W3 W5 := HB4.out.trans bs
  have hi5 := HI.out.below b05
  refine ⟨⟨hi5.b, hi5.s, World.ownsRow_nil _ _ _ _, World.ownsRow_nil _ _ _ _, hi5.g0, by show E.g < W5.heap.size; omega, Nat.le_refl _⟩, ⟨keeps b15 HG1.out, keeps b35 HG3.out, ?_, ?_, ?_, ?_⟩⟩
  ·rw [h5]
   exact heap_setCell_same _ _ _ _ _ _ HG4.out
  ·have := owns_below HO2.out b25
   have hr := RowInts.of_owns this
   exact hr
  ·refine ⟨?_, ?_, ?_, ?_, ?_, ?_⟩
   ·show W.heap.size < W5.heap.size; omega
   ·show w2.heap.size < W5.heap.size; omega
   ·show W3.heap.size < W5.heap.size; omega
   ·show W.heap.size ≠ E.g; omega
   ·show w2.heap.size ≠ E.g; omega
   ·show W3.heap.size ≠ E.g; omega
  ·intro b hb
   have := HO2.out.lt b hb
   refine ⟨?_, ?_⟩
   ·show b < W5.heap.size; omega
   ·show b ≠ E.g; omega
 go_upto_region 4 with (fail)
 clear cw zw
 generalize hW5 : W4.setCell ⟨W3.heap.size, 0, none⟩ (.func (.func 29) #[] #[.pointer (some ⟨W.heap.size, 0, none⟩), .pointer (some ⟨w2.heap.size, 0, none⟩), .pointer (some ⟨W3.heap.size, 0, none⟩)]) = W5 at *
 have HH := Lib.hid (HS.out W5 rfl)
 clear hW5 HS
 have HF' : RowKit.Hid (MkF w0 { E with B := W5.heap.size }) := Lib.hid ⟨HF.out.H, HF.out.Y, HF.out.L, HF.out.N, HF.out.K, HF.out.sr, HF.out.sl, HF.out.rz, HF.out.wl, HF.out.rt⟩
 have h0 := well_zero HBY.well
 have CW := Lib.hid (wk_all w0 { E with B := W5.heap.size } HF'.out W.heap.size w2.heap.size W3.heap.size (.slice a2 n2 cc2) (fuelZ E.r.by') W5 [] false _ _ 0 HH.out.1 HH.out.2 (by simp) h0.1 (by show 2 * (endB E.r.by' 0 - 0) ≤ fuelZ E.r.by'; rw [h0.2]; unfold fuelZ; omega) (show (madeP E.r E.l E.bs).length ≤ 2000000000000 from made_len HF.out))
 obtain ⟨m0, m1, m2⟩ := HH.out.2.cells
 go_wp2_with fail
 refine CW.out.mono ?_
 intro e w6 h6
 obtain ⟨o1, l1, v1, f1, u, rfl, rfl, hgo1, hol1, hi1, hk1⟩ := h6.out
 obtain ⟨m3, _, _⟩ := (HH.out.2.kc HH.out.1 hk1).cells
 have hgo1 : mkGo [] false (madeP E.r E.l E.bs) o1 l1 := hgo1
 have CT := Lib.hid (mk_top w0 { E with B := W5.heap.size } o1 l1 v1 f1 w6 hi1 hol1 (fun hl hg => by
  have hg : E.r.goal = 3 := hg
  obtain ⟨x, M, e1, _⟩ := made_root HF.out.rz hg E.l E.bs
  by_cases c : ([] : List PN).length + (madeP E.r E.l E.bs).length ≤ 131073
  ·have := (hgo1.1 ⟨rfl, c⟩).2
   rw [this, List.nil_append, e1]; simp
  ·have := hgo1.2 (fun h => c h.2)
   rw [this] at hl; cases hl))
 have HGO := Lib.hid hgo1
 clear hgo1 hi1 hk1 h6 m0 m1 m2
 generalize cntP _ = kk
 go_wp2_with fail
 refine CT.out.mono ?_
 intro e w7 h7
 have HX := Lib.hid (HM.out { E with B := W5.heap.size } rfl o1 l1 HGO.out e w7 h7)
 unfold topPost at h7
 obtain ⟨ov7, fv7, long7, k7, rfl, _⟩ := h7
 go_wp2_with fail
 exact HX.out
end Go.Proofs.YtmklemelgdilkaaDoor
namespace Go.Proofs.YtmklemelgdilkaaDoor
set_option linter.all false
open Go Go.RowKit

abbrev PkX := Pk × Value
def pkV (x : PkX) : List Value := [.int .i64 x.1.1, .int .i64 x.1.2.1, x.2]
structure PicksIn (w : World) (v : Value) (xs : List PkX) : Prop where
 R : Row w v xs.length 3 (xs.flatMap pkV)
 E : ∀ x ∈ xs, BindRow w x.2 x.1.2.2
theorem PicksIn.below {w w' : World} {v : Value} {xs : List PkX} (h : PicksIn w v xs) (hb : Below w.heap.size w w') : PicksIn w' v xs := ⟨Row.below h.R hb, fun x hx => (h.E x hx).below hb⟩
theorem PicksIn.shape {w : World} {v : Value} {xs : List PkX} (h : PicksIn w v xs) : ∃ a cap, v = .slice a xs.length cap ∧ xs.length ≤ cap := Row.shape h.R
theorem PicksIn.at {w w' : World} {a : Option Addr} {n cap : Nat} {xs : List PkX} (h : PicksIn w (.slice a n cap) xs) (hb : Below w.heap.size w w') (hp : 0 < xs.length) :
  ∃ b off, a = some ⟨b, off, none⟩ ∧ b < w.heap.size ∧ ∀ i (hi : i < xs.length),
   w'.cell? ⟨b, off + i * 3, none⟩ = some (.int .i64 xs[i].1.1) ∧ w'.cell? ⟨b, off + i * 3 + 1, none⟩ = some (.int .i64 xs[i].1.2.1) ∧ w'.cell? ⟨b, off + i * 3 + 2, none⟩ = some xs[i].2 := by
 obtain ⟨b, off, cap', hv, hc, hlt, hcell⟩ := Row.cells h.R hb hp
 simp only [Value.slice.injEq] at hv
 obtain ⟨rfl, rfl, rfl⟩ := hv
 have key : ∀ i (hi : i < xs.length) (j : Nat), j < 3 → w'.cell? ⟨b, off + i * 3 + j, none⟩ = (pkV xs[i])[j]? := fun i hi j hj => by
  rw [Nat.add_assoc, hcell _ (by omega)]
  exact flat_at (g := pkV) (sz := 3) (fun _ => rfl) xs i j hi hj
 exact ⟨b, off, rfl, hlt, fun i hi => ⟨key i hi 0 (by omega), key i hi 1 (by omega), key i hi 2 (by omega)⟩⟩
structure PkMade (B : Nat) (W : World) (g : Nat) (M : List PN) : Prop where
 lt : B ≤ g
 s : ∃ (E : MkE) (ov fv : Value) (b : Bool), E.g = g ∧ mkB E ov fv b W ∧ ∀ W', Above B W W' → PartRow W' ov (M.map (·.1)) ∧ RowInts W' fv .i64 (M.map (·.2))
theorem PkMade.above {B : Nat} {W W' : World} {g : Nat} {M : List PN} (h : PkMade B W g M) (ha : Above B W W') : PkMade B W' g M := by
 obtain ⟨E, ov, fv, b, e, hm, hr⟩ := h.s
 refine ⟨h.lt, E, ov, fv, b, e, ?_, fun W2 ha2 => hr W2 (ha.trans ha2)⟩
 unfold mkB at *
 rw [ha.up E.g (by rw [e]; exact h.lt) (keeps_lt hm)]
 exact hm
structure St1 (gm gd : Nat) (w6 : World) (ML : List Int) (MS : List (List PN)) (np : Nat) (W : World) : Prop where
 os : W.os = w6.os
 tape : W.tape = w6.tape
 output : W.output = w6.output
 size : w6.heap.size ≤ W.heap.size
 low : ∀ b, b < w6.heap.size → b ≠ gm → b ≠ gd → W.heap[b]? = w6.heap[b]?
 more : W.heap[gm]? = some (.cells (ML.map (Value.int .i64)).toArray 3 (0, 0))
 made : ∃ C : Array Value, W.heap[gd]? = some (.cells C 59 (0, 0)) ∧ C.size = np ∧ ∀ j (hj : j < MS.length), ∃ g, C[j]? = some (.pointer (some ⟨g, 0, none⟩)) ∧ PkMade w6.heap.size W g MS[j]
 lm : gm < w6.heap.size
 ld : gd < w6.heap.size
 ne : gm ≠ gd
section
variable {gm gd np : Nat} {w6 W : World} {ML : List Int} {MS : List (List PN)}
theorem St1.below {W' : World} (h : St1 gm gd w6 ML MS np W) (hb : Below W.heap.size W W') : St1 gm gd w6 ML MS np W' := by
 obtain ⟨C, hC, hs, hm⟩ := h.made
 exact ⟨hb.os.trans h.os, hb.tape.trans h.tape, hb.output.trans h.output, Nat.le_trans h.size hb.size, fun b h1 h2 h3 => by rw [hb.block b (by have := h.size; omega)]; exact h.low b h1 h2 h3, keeps hb h.more,
  ⟨C, keeps hb hC, hs, fun j hj => by obtain ⟨g, e, k⟩ := hm j hj; exact ⟨g, e, k.above (Above.of_below hb)⟩⟩, h.lm, h.ld, h.ne⟩
theorem St1.toBelow {w : World} (h : St1 gm gd w6 ML MS np W) (hb : Below w.heap.size w w6) (h1 : w.heap.size ≤ gm) (h2 : w.heap.size ≤ gd) : Below w.heap.size w W :=
 ⟨h.os.trans hb.os, h.tape.trans hb.tape, h.output.trans hb.output, Nat.le_trans hb.size h.size, fun k hk => (h.low k (by have := hb.size; omega) (by omega) (by omega)).trans (hb.block k hk)⟩
theorem St1.row {v : Value} {n sz : Nat} {cs : List Value} (h : St1 gm gd w6 ML MS np W) (hr : Row w6 v n sz cs) (hb : ∀ b, v.ownBlock = some b → b ≠ gm ∧ b ≠ gd) : Row W v n sz cs :=
 Row.same2 hr fun b e hlt => ⟨Nat.lt_of_lt_of_le hlt h.size, h.low b hlt (hb b e).1 (hb b e).2⟩
theorem St1.moreCell (h : St1 gm gd w6 ML MS np W) {u : Nat} (hu : u < ML.length) : W.cell? ⟨gm, u, none⟩ = some (.int .i64 ML[u]) ∧ W.frozen? ⟨gm, u, none⟩ = false := by
 simp [World.cell?, World.frozen?, h.more, hu]
theorem St1.setMore (h : St1 gm gd w6 ML MS np W) (u : Nat) (z : Int) : St1 gm gd w6 (ML.set u z) MS np (W.setCell ⟨gm, u, none⟩ (.int .i64 z)) := by
 obtain ⟨C, hC, hs, hm⟩ := h.made
 exact ⟨h.os, h.tape, h.output, by simpa using h.size, fun b h1 h2 h3 => by rw [heap_setCell_other _ _ _ _ h2]; exact h.low b h1 h2 h3, by rw [heap_setCell_same _ _ _ _ _ _ h.more, List.setIfInBounds_toArray, ← List.map_set],
  ⟨C, by rw [heap_setCell_other _ _ _ _ (show gd ≠ gm from fun e => h.ne e.symm)]; exact hC, hs, fun j hj => by obtain ⟨g, e, k⟩ := hm j hj; exact ⟨g, e, k.above ((Above.refl _ _).setCell h.lm _ _)⟩⟩, h.lm, h.ld, h.ne⟩
theorem St1.madeCell (h : St1 gm gd w6 ML MS np W) {j : Nat} (hj : j < np) : ∃ u, W.cell? ⟨gd, j, none⟩ = some u ∧ W.frozen? ⟨gd, j, none⟩ = false := by
 obtain ⟨C, hC, hs, _⟩ := h.made
 have hjs : j < C.size := by omega
 refine ⟨C[j], ?_, ?_⟩
 ·simp [World.cell?, hC, hjs]
 ·simp [World.frozen?, hC]
theorem St1.setMade (h : St1 gm gd w6 ML MS np W) (hn : MS.length < np) {g : Nat} {M : List PN} (hp : PkMade w6.heap.size W g M) : St1 gm gd w6 ML (MS ++ [M]) np (W.setCell ⟨gd, MS.length, none⟩ (.pointer (some ⟨g, 0, none⟩))) := by
 obtain ⟨C, hC, hs, hm⟩ := h.made
 have hab : Above w6.heap.size W (W.setCell ⟨gd, MS.length, none⟩ (.pointer (some ⟨g, 0, none⟩))) := (Above.refl _ _).setCell h.ld _ _
 refine ⟨h.os, h.tape, h.output, by simpa using h.size, fun b h1 h2 h3 => by rw [heap_setCell_other _ _ _ _ h3]; exact h.low b h1 h2 h3, by rw [heap_setCell_other _ _ _ _ h.ne]; exact h.more, ⟨_, heap_setCell_same _ _ _ _ _ _ hC, by simpa using hs, fun j hj => ?_⟩, h.lm, h.ld, h.ne⟩
 rw [List.length_append, List.length_singleton] at hj
 by_cases e : j = MS.length
 ·subst e
  refine ⟨g, by simp [hs, hn], ?_⟩
  rw [List.getElem_append_right (Nat.le_refl _)]
  simpa using hp.above hab
 ·obtain ⟨g', e1, k⟩ := hm j (by omega)
  refine ⟨g', ?_, ?_⟩
  ·rw [Array.getElem?_setIfInBounds_ne (by omega)]; exact e1
  ·rw [List.getElem_append_left (by omega)]; exact k.above hab
theorem St1.maker (h : St1 gm gd w6 ML MS np W) {j : Nat} (hj : j < MS.length) (hn : MS.length ≤ np) : ∃ g, ∃ ov fv : Value, W.cell? ⟨gd, j, none⟩ = some (.pointer (some ⟨g, 0, none⟩)) ∧ W.cell? ⟨g, 8, none⟩ = some ov ∧ W.cell? ⟨g, 9, none⟩ = some fv ∧ w6.heap.size ≤ g ∧ g < W.heap.size ∧ ∀ W', Above w6.heap.size W W' → PartRow W' ov (MS[j].map (·.1)) ∧ RowInts W' fv .i64 (MS[j].map (·.2)) := by
 obtain ⟨C, hC, hs, hm⟩ := h.made
 obtain ⟨g, e, hp⟩ := hm j hj
 obtain ⟨E, ov, fv, b, e2, hmk, hr⟩ := hp.s
 have hc := hmk.cells
 have hl := keeps_lt hmk
 rw [e2] at hc hl
 refine ⟨g, ov, fv, ?_, hc.2.2.2.2.2.2.2.2.1, hc.2.2.2.2.2.2.2.2.2.1, hp.lt, hl, hr⟩
 simp [World.cell?, hC, e]
end
@[irreducible] def stepPost (rs : List RuleM) (l : List Prt) (P : List Pk) (w0 : World) (e : Ending) (w' : World) : Prop :=
 Below w0.heap.size w0 w' ∧ ∃ ov nv, e = .returned (.tuple #[ov, nv, .int .i64 (stepZ rs l P).2]) ∧ w'.ownsRow w0.heap.size 38 3 ov (stepZ rs l P).1.length (partsV ((stepZ rs l P).1.map (·.1))) ∧ w'.ownsRow w0.heap.size 3 1 nv (stepZ rs l P).1.length (intsV ((stepZ rs l P).1.map (·.2)))
theorem stepPost.no {rs : List RuleM} {l : List Prt} {P : List Pk} {w0 w' : World} {z : Int} (h : stepZ rs l P = ([], z)) (hb : Below w0.heap.size w0 w') : stepPost rs l P w0 (.returned (.tuple #[.slice none 0 0, .slice none 0 0, .int .i64 z])) w' := by
 unfold stepPost
 rw [h]
 exact ⟨hb, _, _, rfl, World.ownsRow_nil _ _ _ _, World.ownsRow_nil _ _ _ _⟩
end Go.Proofs.YtmklemelgdilkaaDoor
