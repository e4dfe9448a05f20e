/- Layer 15: the copier's each, walked. -/
import Derived.Test.YtmklemelgdilkaaDoorCopPMh
import Derived.Test.YtmklemelgdilkaaDoorKpMMh
import Derived.Test.YtmklemelgdilkaaDoorMatchPMh
import Derived.Test.YtmklemelgdilkaaDoorTermMh
namespace Go.Proofs.YtmklemelgdilkaaDoor
set_option linter.all false
attribute [local irreducible] Calls
attribute [local irreducible] wpStill
open Go.RowKit

@[irreducible] def eRel (w0 : World) (E : CpE) (i q n : Nat) (W1 : World) (ov nv : Value) (X : List Prt) (Y : List Int) (iv : Value) (wr : World) : Prop :=
 ∃ (nth k m : Nat) (out' : List Prt) (ns' : List Int) (ov' nv' : Value), iv = .int .i64 (nth : Int) ∧ nth ≤ q ∧ advT E.l nth (i + 1) (endB E.l i) = some k ∧ CpIn w0 E out' ns' k ov' nv' wr ∧ KpC E.g ov nv ov' nv' W1 wr ∧
  out' ++ (gKids E.l E.fr m (ptAt E.l i) nth k (endB E.l i)).map (·.1) = X ∧ ns' ++ (gKids E.l E.fr m (ptAt E.l i) nth k (endB E.l i)).map (·.2) = Y ∧ 2 * (endB E.l i - k) + 1 ≤ m ∧ m ≤ n ∧ ns'.length = out'.length
theorem kid_here {l : List Prt} {us : List Nat} (hl : rowsB l = some us) {i q nth k : Nat} (hi : i < l.length) (hq : advT l q (i + 1) (endB l i) = some (endB l i)) (hk : advT l nth (i + 1) (endB l i) = some k) (hn : nth < q) : k < endB l i ∧ advT l (nth + 1) (i + 1) (endB l i) = some (endB l k) ∧ endB l k ≤ endB l i := by
 have hg := endB_gt hl hi
 obtain ⟨r1, r2, r3⟩ := adv_rest hl hg.2 hq hk
 have hne : k ≠ endB l i := by
  intro e
  subst e
  obtain ⟨J, hJ⟩ : ∃ J, q - nth = J + 1 := ⟨q - nth - 1, by omega⟩
  rw [hJ] at r3
  rw [advT, if_neg (by omega)] at r3
  cases r3
 obtain ⟨hlt, J, _, hJ⟩ := adv_next r3 hne
 have h5 := adv_le hl _ _ _ _ hg.2 hJ
 exact ⟨hlt, by rw [adv_add, hk, Option.bind_some, advT, if_pos hlt, advT], by omega⟩
theorem adv_many {l : List Prt} {us : List Nat} (hl : rowsB l = some us) {stop : Nat} (hs : stop ≤ l.length) : ∀ n k b, advT l n k stop = some b → k + n ≤ b
 | 0, k, b, h => by rw [advT] at h; cases h; omega
 | n + 1, k, b, h => by
  rw [advT] at h
  split at h
  ·rename_i hlt
   have h1 := adv_many hl hs n _ b h
   have h2 := (endB_gt hl (show k < l.length by omega)).1
   omega
  ·cases h
set_option maxRecDepth 100000 in
set_option maxHeartbeats 16000000 in
theorem cp_each (w0 : World) (E : CpE) (F : CpF w0 E) (n : Nat) (ihP : ∀ m, m < n → PutC w0 E m) (W : World) (out : List Prt) (ns : List Int) (i : Nat) (ov nv : Value) (hi : CpIn w0 E out ns (i + 1) ov nv W) (hil : i < E.l.length) (hfu : 2 * (endB E.l i - (i + 1)) + 1 ≤ n) (hlen : out.length + (gKids E.l E.fr n (ptAt E.l i) 0 (i + 1) (endB E.l i)).length ≤ 1000000000) (hns : ns.length = out.length) :
  Calls Tryd.prog 39 #[.pointer (some ⟨E.g, 0, none⟩), partA (ptAt E.l i), .func (.func 33) #[.pointer (some ⟨E.g, 0, none⟩)] #[]] W (cpPost w0 E out ns ov nv (gKids E.l E.fr n (ptAt E.l i) 0 (i + 1) (endB E.l i)) (endB E.l i) W) := by
 obtain ⟨q, hq1, hq2, hq3, hq4⟩ := kids_list (well_rows F.w) hil
 have hgg := endB_gt (well_rows F.w) hil
 have hpt : ptAt E.l i = E.l[i] := by unfold ptAt; simp [List.getD_eq_getElem?_getD, hil]
 have hps : (ptAt E.l i).2.2.size ≤ 1048576 := by rw [hpt]; exact (F.s.2 _ (List.getElem_mem hil)).2
 have hq9 : q ≤ 1048576 := by
  have h1 := F.s.1
  have h2 := adv_many (well_rows F.w) hgg.2 _ _ _ hq2
  omega
 have hgl := keeps_lt hi.s
 have HBX := Lib.hid ((Below.refl W.heap.size W).alloc (Nat.le_refl _) (.cells #[.int .u8 ((ptAt E.l i).1 : Int), .int .i64 (ptAt E.l i).2.1, .string (ptAt E.l i).2.2] 38))
 have HP1 := Lib.hid (PK.alloc_new W (ptAt E.l i))
 have HC1 := Lib.hid (hi.below HBX.out)
 have HK1 := Lib.hid (KpC.of_below (g := E.g) (ov := ov) (nv := nv) HBX.out)
 have HTG : RowKit.Hid (W.heap.size ≠ E.g) := Lib.hid (by omega)
 have HTO : RowKit.Hid (ov.ownBlock ≠ some W.heap.size) := Lib.hid (fun e => by have := (hi.o.lt _ e).2; omega)
 have HTN : RowKit.Hid (nv.ownBlock ≠ some W.heap.size) := Lib.hid (fun e => by have := (hi.f.lt _ e).2; omega)
 have hk2 : (ptAt E.l i).2.1 = (q : Int) := by rw [hpt]; exact hq1
 have HF := Lib.hid F
 have HPP := Lib.hid (rfl : ptAt E.l i = ptAt E.l i)
 obtain ⟨X, hX⟩ : ∃ X, out ++ (gKids E.l E.fr n (ptAt E.l i) 0 (i + 1) (endB E.l i)).map (·.1) = X := ⟨_, rfl⟩
 obtain ⟨Y, hY⟩ : ∃ Y, ns ++ (gKids E.l E.fr n (ptAt E.l i) 0 (i + 1) (endB E.l i)).map (·.2) = Y := ⟨_, rfl⟩
 have hXl : X.length ≤ 1000000000 := by rw [← hX]; simp; omega
 have HQ : RowKit.Hid (∀ W1 w' ov' nv' v, KpC E.g ov nv ov nv W W1 → CpIn w0 E X Y (endB E.l i) ov' nv' w' → KpC E.g ov nv ov' nv' W1 w' → cpPost w0 E out ns ov nv (gKids E.l E.fr n (ptAt E.l i) 0 (i + 1) (endB E.l i)) (endB E.l i) W (.returned v) w') := Lib.hid fun W1 w' ov' nv' v h1 hc hk => by
  unfold cpPost
  exact ⟨ov', nv', v, rfl, by rw [hX, hY]; exact hc, h1.trans hk⟩
 have HR0 : RowKit.Hid (∀ W1, CpIn w0 E out ns (i + 1) ov nv W1 → eRel w0 E i q n W1 ov nv X Y (.int .i64 0) W1) := Lib.hid fun W1 hc => by
  unfold eRel
  exact ⟨0, i + 1, n, out, ns, ov, nv, rfl, Nat.zero_le _, rfl, hc, KpC.refl _ _ _ _, hX, hY, hfu, Nat.le_refl _, hns⟩
 generalize cpPost w0 E out ns ov nv (gKids E.l E.fr n (ptAt E.l i) 0 (i + 1) (endB E.l i)) (endB E.l i) W = Q at *
 clear hX hY hpt hq1 hi F hlen hns
 unfold partA
 have HKQ := Lib.hid hk2
 rw [hk2] at HBX HP1 HC1 HK1 ⊢
 clear hk2 hq3 hq4
 go_enter Tryd.func39, Tryd.ntmps39
 go_upto_region 1 with (fail)
 generalize W.alloc (.cells #[.int .u8 ((ptAt E.l i).1 : Int), .int .i64 (q : Int), .string (ptAt E.l i).2.2] 38) = W1 at *
 have p1 := HP1.out.c1
 rw [HKQ.out] at p1
 go_wp2_with fail
 clear p1
 go_loopw [9] (fun iv wr => eRel w0 E i q n W1 ov nv X Y iv wr) (fun iv _ => q - (intOf iv).toNat)
 case atStart => exact HR0.out W1 HC1.out
 case round =>
  unfold eRel at hrel
  obtain ⟨nth, k, m, out', ns', ov', nv', rfl, hnq, hk, hc, hkp, hx, hy, hm, hmn, hns'⟩ := hrel
  by_cases hlt : nth < q
  ·obtain ⟨hks, hk', hke⟩ := kid_here (well_rows HF.out.w) hil hq2 hk hlt
   obtain ⟨m, rfl⟩ : ∃ m', m = m' + 1 := ⟨m - 1, by omega⟩
   rw [gKids, if_neg (by omega)] at hx hy
   have hkl : k < E.l.length := by omega
   have HPr : RowKit.Hid (PK wr W.heap.size (ptAt E.l i)) := Lib.hid (by
    have h := HP1.out
    unfold PK at *
    rw [hkp.low _ (lt_of_block h) HTG.out HTO.out HTN.out]; exact h)
   have hto : ov'.ownBlock ≠ some W.heap.size := no_app HP1.out hkp HTO.out
   have htn : nv'.ownBlock ≠ some W.heap.size := fun e => by
    have hl := lt_of_block HP1.out
    rcases hkp.nn _ e with e | e
    ·exact HTN.out e
    ·omega
   have HTO' := Lib.hid hto; have HTN' := Lib.hid htn
   have HLA := HF.out.L
   obtain ⟨la, lc, hvl, hlc⟩ := HF.out.L.slice
   rw [hvl] at HLA
   obtain ⟨lb, lo, rfl, y1, y2, y3, y4⟩ := HLA.at (Below.refl _ _) (show 0 < E.l.length by omega)
   clear y1 y2 y3 y4
   have hpk : ptAt E.l k = E.l[k] := by unfold ptAt; simp [List.getD_eq_getElem?_getD, hkl]
   have hpks : (ptAt E.l k).2.2.size ≤ 1048576 := by rw [hpk]; exact (HF.out.s.2 _ (List.getElem_mem hkl)).2
   have HSF : RowKit.Hid (∀ W', Below wr.heap.size wr W' → W'.cell? ⟨E.g, 0, none⟩ = some (.slice (some ⟨lb, lo, none⟩) E.l.length lc) ∧ W'.cell? ⟨E.g, 4, none⟩ = some (.int .i64 (k : Int)) ∧ W'.cell? ⟨lb, lo + k * 3, none⟩ = some (.int .u8 ((ptAt E.l k).1 : Int)) ∧ W'.cell? ⟨lb, lo + k * 3 + 1, none⟩ = some (.int .i64 (ptAt E.l k).2.1) ∧ W'.cell? ⟨lb, lo + k * 3 + 2, none⟩ = some (.string (ptAt E.l k).2.2) ∧ W'.cell? ⟨W.heap.size, 0, none⟩ = some (.int .u8 ((ptAt E.l i).1 : Int)) ∧ W'.cell? ⟨W.heap.size, 1, none⟩ = some (.int .i64 (ptAt E.l i).2.1) ∧ W'.cell? ⟨W.heap.size, 2, none⟩ = some (.string (ptAt E.l i).2.2) ∧ RowKit.Hid (Below wr.heap.size wr W')) := Lib.hid fun W' hb => by
    have hc' := hc.below hb
    have hp' := HPr.out.keep hb
    obtain ⟨b2, o2, e', _, _, _, hcc⟩ := HLA.at hc'.b (show 0 < E.l.length by omega)
    simp only [Option.some.injEq, Addr.mk.injEq, and_true] at e'
    obtain ⟨rfl, rfl⟩ := e'
    obtain ⟨d0, d1, d2⟩ := hcc k hkl
    rw [hpk]
    exact ⟨by rw [hc'.s.cells.1, hvl], hc'.s.cells.2.2.2.2.1, d0, d1, d2, hp'.c0, hp'.c1, hp'.c2, Lib.hid hb⟩
   have hwb : Below w0.heap.size w0 wr := hc.b
   have CV := Lib.hid (fun W' (hb : Below wr.heap.size wr W') => guard_Level (ptAt E.l k) hpks W' ((HF.out.M.below hwb).below hb))
   have CE := Lib.hid (fun W' (hb : Below wr.heap.size wr W') => guard_least (ptAt E.l i) nth (by omega) hps W' ((HF.out.M.below hwb).below hb))
   unfold partA at CV CE
   have HC := Lib.hid hc; have HKP := Lib.hid hkp; have HNS := Lib.hid hns'; have HXX := Lib.hid hx; have HYY := Lib.hid hy
   have hk0 : (0 : Int) ≤ (k : Int) := by omega
   have hkll : (k : Int) < E.l.length := by omega
   have hklc : (k : Int) < (lc : Int) := by omega
   clear hc hkp hns' hx hy hto htn hvl HLA hpk hwb
   go_upto_region 4 with (fail)
   have HBd := Lib.hid (Below.refl wr.heap.size wr).drew
   refine region_cutC (fun a a' w' => a' = (((((((((((((((a.put (some 12) (.pointer (some ⟨E.g, 0, none⟩))).put (some 13) (.pointer (some ⟨E.g, 0, none⟩))).put (some 14) (.pointer (some ⟨E.g, 0, none⟩))).put (some 15) (.slice (some ⟨lb, lo, none⟩) E.l.length lc)).put (some 16) (.pointer (some ⟨E.g, 0, none⟩))).put (some 17) (.pointer (some ⟨E.g, 0, none⟩))).put (some 18) (.pointer (some ⟨E.g, 4, none⟩))).put (some 19) (.int .i64 (k : Int))).put (some 20) (.pointer (some ⟨lb, lo + k * 3, none⟩))).put (some 21) (.agg #[.int .u8 ((ptAt E.l k).1 : Int), .int .i64 (ptAt E.l k).2.1, .string (ptAt E.l k).2.2])).put (some 22) (.int .i64 (levelZ (ptAt E.l k) : Int))).put (some 23) (.agg #[.int .u8 ((ptAt E.l i).1 : Int), .int .i64 (ptAt E.l i).2.1, .string (ptAt E.l i).2.2])).put (some 24) (.int .i64 (nth : Int))).put (some 25) (.int .i64 (leastZ (ptAt E.l i) nth : Int))).put (some 26) (.bool (decide (levelZ (ptAt E.l k) < leastZ (ptAt E.l i) nth)))) ∧ RowKit.Hid (Below wr.heap.size wr w')) ?_ ?_
   ·go_region_held3 (fun W' => W'.cell? ⟨E.g, 0, none⟩ = some (.slice (some ⟨lb, lo, none⟩) E.l.length lc) ∧ W'.cell? ⟨E.g, 4, none⟩ = some (.int .i64 (k : Int)) ∧ W'.cell? ⟨lb, lo + k * 3, none⟩ = some (.int .u8 ((ptAt E.l k).1 : Int)) ∧ W'.cell? ⟨lb, lo + k * 3 + 1, none⟩ = some (.int .i64 (ptAt E.l k).2.1) ∧ W'.cell? ⟨lb, lo + k * 3 + 2, none⟩ = some (.string (ptAt E.l k).2.2) ∧ W'.cell? ⟨W.heap.size, 0, none⟩ = some (.int .u8 ((ptAt E.l i).1 : Int)) ∧ W'.cell? ⟨W.heap.size, 1, none⟩ = some (.int .i64 (ptAt E.l i).2.1) ∧ W'.cell? ⟨W.heap.size, 2, none⟩ = some (.string (ptAt E.l i).2.2) ∧ RowKit.Hid (Below wr.heap.size wr W'))
     (first | exact HSF.out _ HBd.out | exact HSF.out _ (bthen HBd.out hbA) | exact HSF.out _ (bthen HBd.out hbB) | exact HSF.out _ (bthen (bthen HBd.out hbA) hbB) | exact HSF.out _ (bthen (bthen HBd.out hbB) hbA))
     (first
      | (go_at_call 48; refine (CV.out _ (by first | exact HBd.out | exact bthen HBd.out hbB)).mono ?_; rintro e wA ⟨rfl, hbA⟩; (try dsimp only))
      | (go_at_call 49; refine (CE.out _ (by first | exact HBd.out | exact bthen HBd.out hbA)).mono ?_; rintro e wB ⟨rfl, hbB⟩; (try dsimp only)))
    all_goals
     rename_i hH
     obtain ⟨_, _, _, _, _, _, _, _, HBE⟩ := hH
     exact ⟨by kernel_rfl, HBE⟩
   rintro _ w4 ⟨rfl, HB4⟩
   (try simp only [Act.put, List.setIfInBounds_toArray, List.set_cons_zero, List.set_cons_succ])
   have HC4 := Lib.hid (HC.out.below HB4.out)
   have HK4 := Lib.hid (HKP.out.trans (KpC.of_below HB4.out))
   clear HC HKP HB4 CV CE HSF HPr HTO' HTN'
   have HST : RowKit.Hid (∀ w7 ov7 nv7, CpIn w0 E (out' ++ (brk (ptAt E.l i) nth (ptAt E.l k)).map (·.1) ++ (gPart E.l E.fr m k).map (·.1)) (ns' ++ (brk (ptAt E.l i) nth (ptAt E.l k)).map (·.2) ++ (gPart E.l E.fr m k).map (·.2)) (endB E.l k) ov7 nv7 w7 → KpC E.g ov nv ov7 nv7 W1 w7 → eRel w0 E i q n W1 ov nv X Y (.int .i64 ((nth : Int) + 1)) w7) := Lib.hid fun w7 ov7 nv7 hc hkp => by
    have hx := HXX.out; have hy := HYY.out; have hn := HNS.out
    unfold eRel
    refine ⟨nth + 1, endB E.l k, m, _, _, ov7, nv7, by push_cast; rfl, hlt, hk', hc, hkp, by rw [← hx]; simp [List.append_assoc], by rw [← hy]; simp [List.append_assoc], ?_, by omega, by simp [hn]⟩
    have := (endB_gt (well_rows HF.out.w) hkl).1
    omega
   have HLN : RowKit.Hid (out'.length + (brk (ptAt E.l i) nth (ptAt E.l k)).length + (gPart E.l E.fr m k).length ≤ 1000000000) := Lib.hid (by
    have h := congrArg List.length HXX.out
    simp only [List.length_append, List.length_map] at h
    omega)
   have hfuel : 2 * (endB E.l k - k) ≤ m := by omega
   have HBK : RowKit.Hid (brk (ptAt E.l i) nth (ptAt E.l k) = if levelZ (ptAt E.l k) < leastZ (ptAt E.l i) nth then [paren] else []) := Lib.hid (by unfold brk; rw [← least_loose]; by_cases h : levelZ (ptAt E.l k) < leastZ (ptAt E.l i) nth <;> simp [h])
   clear HXX HYY hk hk' hm
   by_cases hz : levelZ (ptAt E.l k) < leastZ (ptAt E.l i) nth
   ·have hz1 : decide (levelZ (ptAt E.l k) < leastZ (ptAt E.l i) nth) = true := decide_eq_true hz
    have hzi : ((levelZ (ptAt E.l k) : Nat) : Int) < (leastZ (ptAt E.l i) nth : Int) := by omega
    have hbk := HBK.out
    rw [if_pos hz] at hbk
    rw [hbk] at HST HLN
    clear hbk HBK
    have hol : out'.length ≤ 1000000000 := by have := HLN.out; omega
    have hnl : ns'.length ≤ 1000000000 := by rw [HNS.out]; exact hol
    go_upto_region 5 with (fail)
    obtain ⟨c0, c1, c2, c3, c4, cz⟩ := HC4.out.s.cells
    obtain ⟨v5, w5, hr5, hs5, hc5, hk5⟩ := HC4.out.part (28, 1, ByteArray.empty) (by omega)
    obtain ⟨v5a, v5n, v5c, rfl⟩ := owns_slice hc5.o
    obtain ⟨e0, e1, e2, e3, e4, ez⟩ := hs5.cells
    have HC5 := Lib.hid hc5; have HK5 := Lib.hid (HK4.out.trans hk5)
    clear hs5 hc5 hk5
    go_upto_region 6 with (at_builtin; refine wpList_append_run rfl _ _ _ _ hr5 rfl rfl rfl rfl ?_)
    clear c0 c1 c2 c3 c4 cz e0 e1 e2 e3 e4 ez hr5 HC4 HK4
    generalize w5.setCell ⟨E.g, 2, none⟩ (.slice v5a v5n v5c) = w5' at *
    obtain ⟨c0, c1, c2, c3, c4, cz⟩ := HC5.out.s.cells
    obtain ⟨v6, w6, hr6, hs6, hc6, hk6⟩ := HC5.out.num (-1) (by omega)
    obtain ⟨v6a, v6n, v6c, rfl⟩ := owns_slice hc6.f
    obtain ⟨e0, e1, e2, e3, e4, ez⟩ := hs6.cells
    have HC6 := Lib.hid hc6; have HK6 := Lib.hid (HK5.out.trans hk6)
    clear hs6 hc6 hk6
    go_upto_region 7 with (at_builtin; refine wpList_append_run rfl _ _ _ _ hr6 rfl rfl rfl rfl ?_)
    clear c0 c1 c2 c3 c4 cz e0 e1 e2 e3 e4 ez hr6 HC5 HK5
    generalize w6.setCell ⟨E.g, 3, none⟩ (.slice v6a v6n v6c) = w6' at *
    go_wp2_with fail
    have hp := ihP m (by omega)
    unfold PutC at hp
    refine (hp w6' _ _ k _ _ HC6.out hkl hfuel (by have := HLN.out; simp only [List.length_append, List.length_singleton] at *; omega) (by have := HNS.out; simp only [List.length_append, List.length_singleton]; omega)).mono ?_
    clear hp
    intro e w7 hp
    unfold cpPost at hp
    obtain ⟨ov7, nv7, v7, rfl, hc7, hk7⟩ := hp
    have HRL := Lib.hid (HST.out w7 ov7 nv7 hc7 (HK6.out.trans hk7))
    clear hc7 hk7
    go_wp2_with fail
    go_roundw
    case rel => exact HRL.out
    case measure => simp only [intOf]; omega
   ·have hz1 : decide (levelZ (ptAt E.l k) < leastZ (ptAt E.l i) nth) = false := decide_eq_false hz
    have hzi : ¬ ((levelZ (ptAt E.l k) : Nat) : Int) < (leastZ (ptAt E.l i) nth : Int) := by omega
    have hbk := HBK.out
    rw [if_neg hz] at hbk
    rw [hbk] at HST HLN
    simp only [List.map_nil, List.append_nil, List.length_nil, Nat.add_zero] at HST HLN
    clear hbk HBK
    go_wp2_with fail
    have hp := ihP m (by omega)
    unfold PutC at hp
    refine (hp w4 _ _ k _ _ HC4.out hkl hfuel HLN.out HNS.out).mono ?_
    clear hp
    intro e w7 hp
    unfold cpPost at hp
    obtain ⟨ov7, nv7, v7, rfl, hc7, hk7⟩ := hp
    have HRL := Lib.hid (HST.out w7 ov7 nv7 hc7 (HK4.out.trans hk7))
    clear hc7 hk7
    go_wp2_with fail
    go_roundw
    case rel => exact HRL.out
    case measure => simp only [intOf]; omega
  ·obtain rfl : nth = q := by omega
   obtain rfl : endB E.l i = k := by rw [hq2] at hk; exact Option.some.inj hk
   cases m with
   | zero => omega
   | succ m =>
    rw [gKids, if_pos rfl, List.map_nil, List.append_nil] at hx hy
    subst hx; subst hy
    have HZ : RowKit.Hid (∀ v, Q (.returned v) wr) := Lib.hid fun v => HQ.out W1 wr ov' nv' v HK1.out hc hkp
    clear hc hkp
    go_wp2_with fail
    go_end0
    exact HZ.out _
end Go.Proofs.YtmklemelgdilkaaDoor
namespace Go.Proofs.YtmklemelgdilkaaDoor
set_option linter.all false
attribute [local irreducible] Calls
open Go.RowKit

theorem cp_all (w0 : World) (E : CpE) (F : CpF w0 E) : ∀ n, (∀ m, m ≤ n → PutC w0 E m) ∧ (∀ m, m ≤ n → EachC w0 E m)
 | 0 => by
  constructor
  ·intro m hm
   obtain rfl : m = 0 := by omega
   unfold PutC
   intro W out ns i ov nv hc hi h
   have := (endB_gt (well_rows F.w) hi).1
   omega
  ·intro m hm
   obtain rfl : m = 0 := by omega
   unfold EachC
   intro W out ns i ov nv hc hi h
   omega
 | n + 1 => by
  obtain ⟨h1, h2⟩ := cp_all w0 E F n
  constructor
  ·intro m hm
   by_cases e : m ≤ n
   ·exact h1 m e
   ·obtain rfl : m = n + 1 := by omega
    unfold PutC
    intro W out ns i ov nv hc hi hf hl hn
    exact cp_put w0 E F n (h2 n (Nat.le_refl n)) W out ns i ov nv hc hi hf hl hn
  ·intro m hm
   by_cases e : m ≤ n
   ·exact h2 m e
   ·obtain rfl : m = n + 1 := by omega
    unfold EachC
    intro W out ns i ov nv hc hi hf hl hn
    exact cp_each w0 E F (n + 1) (fun m hm => h1 m (by omega)) W out ns i ov nv hc hi hf hl hn
theorem gOne_le (l : List Prt) (fr : List Int) (j : Nat) : (gOne l fr j).length ≤ 2 := by
 unfold gOne
 split <;> simp
theorem gSeg_le (l : List Prt) (fr : List Int) : ∀ n a, ((List.range' a n).flatMap (gOne l fr)).length ≤ 2 * n
 | 0, a => by simp
 | n + 1, a => by
  have h1 := gSeg_le l fr n (a + 1)
  have h2 := gOne_le l fr a
  rw [List.range'_succ, List.flatMap_cons, List.length_append]
  omega
theorem guardZ_le (l : List Prt) (fr : List Int) : (guardZ l fr).length ≤ 2 * l.length := by
 unfold guardZ gSeg
 have := gSeg_le l fr (l.length - 0) 0
 omega
theorem cp_guard (w0 : World) (E : CpE) (F : CpF w0 E) (W : World) (ov nv : Value) (hi : CpIn w0 E [] [] 0 ov nv W) :
  Calls Tryd.prog 33 #[.pointer (some ⟨E.g, 0, none⟩)] W (cpPost w0 E [] [] ov nv (guardZ E.l E.fr) E.l.length W) := by
 have h0 := well_zero F.w
 have h := (cp_all w0 E F (2 * E.l.length)).1 _ (Nat.le_refl _)
 unfold PutC at h
 have h1 := guardZ_le E.l E.fr
 have h2 := F.s.1
 have := h W [] [] 0 ov nv hi h0.1 (by rw [h0.2]; omega) (by rw [guard_part E.l E.fr F.w]; simp; omega) rfl
 rw [guard_part E.l E.fr F.w, h0.2] at this
 exact this
end Go.Proofs.YtmklemelgdilkaaDoor
namespace Go.Proofs.YtmklemelgdilkaaDoor
set_option linter.all false
attribute [local irreducible] Calls
attribute [local irreducible] wpStill
open Go.RowKit

theorem owns_lower {W : World} {B B' : Nat} {e : TypeId} {size n : Nat} {v : Value} {xs : List Value} (h : W.ownsRow B e size v n xs) (hB : B' ≤ B) : W.ownsRow B' e size v n xs := by
 obtain ⟨h1, h2⟩ := h
 refine ⟨h1, ?_⟩
 rcases h2 with h2 | ⟨g, cap, cur, a1, a2, a3⟩
 ·exact Or.inl h2
 ·exact Or.inr ⟨g, cap, cur, a1, Nat.le_trans hB a2, a3⟩
@[irreducible] def withPost (w : World) (l : List Prt) (fr : List Int) (e : Ending) (w' : World) : Prop :=
 Below w.heap.size w w' ∧
  if wellB l = false then e = .returned (.tuple #[.slice none 0 0, .slice none 0 0, .int .i64 8])
  else if fr.length ≠ l.length then e = .returned (.tuple #[.slice none 0 0, .slice none 0 0, .int .i64 1])
  else ∃ ov nv, e = .returned (.tuple #[ov, nv, .int .i64 0]) ∧ w'.ownsRow w.heap.size 38 3 ov (guardZ l fr).length (partsV ((guardZ l fr).map (·.1))) ∧ w'.ownsRow w.heap.size 3 1 nv (guardZ l fr).length (intsV ((guardZ l fr).map (·.2)))
set_option maxRecDepth 100000 in
set_option maxHeartbeats 16000000 in
theorem guard_With (w : World) (l : List Prt) (fr : List Int) (vl vf : Value) (hL : PartRow w vl l) (hF : RowInts w vf .i64 fr) (hs : SmallL l) (hM : MaxC w) :
  Calls Tryd.prog 23 #[vl, vf] w (withPost w l fr) := by
 have CW := Lib.hid (term_Well l (by have := hs.1; omega) vl w hL)
 obtain ⟨la, lc, hvl, hlc⟩ := hL.slice
 obtain ⟨fa, fc, hvf, hfc, _⟩ := hF.open'
 have HNO : RowKit.Hid (wellB l = false → ∀ w', Below w.heap.size w w' → withPost w l fr (.returned (.tuple #[.slice none 0 0, .slice none 0 0, .int .i64 8])) w') := Lib.hid fun h w' hb => by
  unfold withPost; rw [if_pos h]; exact ⟨hb, rfl⟩
 have HN2 : RowKit.Hid (wellB l = true → fr.length ≠ l.length → ∀ w', Below w.heap.size w w' → withPost w l fr (.returned (.tuple #[.slice none 0 0, .slice none 0 0, .int .i64 1])) w') := Lib.hid fun h h2 w' hb => by
  unfold withPost; rw [if_neg (by rw [h]; decide), if_pos h2]; exact ⟨hb, rfl⟩
 have HYES : RowKit.Hid (wellB l = true → fr.length = l.length → ∀ w' ov nv, Below w.heap.size w w' → w'.ownsRow w.heap.size 38 3 ov (guardZ l fr).length (partsV ((guardZ l fr).map (·.1))) → w'.ownsRow w.heap.size 3 1 nv (guardZ l fr).length (intsV ((guardZ l fr).map (·.2))) → withPost w l fr (.returned (.tuple #[ov, nv, .int .i64 0])) w') := Lib.hid fun h h2 w' ov nv hb ho hn => by
  unfold withPost; rw [if_neg (by rw [h]; decide), if_neg (by simp [h2])]; exact ⟨hb, ov, nv, rfl, ho, hn⟩
 generalize withPost w l fr = Q at *
 subst hvl; subst hvf
 have HL := Lib.hid hL; have HF := Lib.hid hF; have HS := Lib.hid hs; have HM := Lib.hid hM
 clear hL hF hs hM
 go_enter Tryd.func23, Tryd.ntmps23
 go_wp2_with fail
 refine CW.out.mono ?_
 rintro e w1 ⟨rfl, hb1⟩
 cases hw : wellB l with
 | false =>
  have HZ := Lib.hid (HNO.out hw w1 hb1)
  go_wp2_with fail
  exact HZ.out
 | true =>
  by_cases hn : fr.length = l.length
  ·have hn1 : (fr.length : Int) = (l.length : Int) := by omega
   go_upto_region 5 with (fail)
   go_upto_region 6 with (fail)
   have hFl : RowInts w (.slice fa l.length fc) .i64 fr := by have h := HF.out; rwa [hn] at h
   obtain ⟨E, hE⟩ : ∃ E : CpE, E = ⟨l, fr, w1.heap.size, w1.heap.size + 1, 77, .slice la l.length lc, .slice fa l.length fc⟩ := ⟨_, rfl⟩
   have HCF : CpF w1 E := by subst hE; exact ⟨HL.out.below hb1, hFl.below hb1, hw, hn, HS.out, HM.out.below hb1⟩
   have HCI : CpIn w1 E [] [] 0 (.slice none 0 0) (.slice none 0 0) (w1.alloc (.cells #[.slice la l.length lc, .slice fa l.length fc, .slice none 0 0, .slice none 0 0, .int .i64 0] 77)) := by
    subst hE
    exact ⟨(Below.refl _ _).alloc (Nat.le_refl _) _, heap_alloc_new _ _, World.ownsRow_nil _ _ _ _, World.ownsRow_nil _ _ _ _, Nat.le_refl _, Nat.lt_succ_self _, by simp⟩
   have CG := Lib.hid (cp_guard w1 E HCF _ _ _ HCI)
   have HG : RowKit.Hid (E.g = w1.heap.size ∧ E.l = l ∧ E.fr = fr ∧ E.B = w1.heap.size + 1) := Lib.hid (by subst hE; exact ⟨rfl, rfl, rfl, rfl⟩)
   rw [HG.out.1, HG.out.2.1, HG.out.2.2.1] at CG
   clear HCF HCI hE hFl
   go_wp2_with fail
   refine CG.out.mono ?_
   intro e w3 hp
   unfold cpPost at hp
   obtain ⟨ov, nv, v, rfl, hc, hk⟩ := hp
   have hB3 : Below w.heap.size w w3 := bthen hb1 hc.b
   have hgB := HG.out.1
   have HSC : RowKit.Hid (∀ W', Below w3.heap.size w3 W' → W'.cell? ⟨w1.heap.size, 2, none⟩ = some ov ∧ W'.cell? ⟨w1.heap.size, 3, none⟩ = some nv) := Lib.hid fun W' hb => by
    have h := (hc.below hb).s.cells
    rw [hgB] at h
    exact ⟨h.2.2.1, h.2.2.2.1⟩
   have HZ : RowKit.Hid (Q (.returned (.tuple #[ov, nv, .int .i64 0])) w3.drew) := Lib.hid (by
    have h := hc.below (Below.refl _ _).drew
    refine HYES.out hw hn w3.drew ov nv (bthen hB3 (Below.refl _ _).drew) ?_ ?_
    ·have := owns_lower h.o (show w.heap.size ≤ E.B by have := HG.out.2.2.2; have := hb1.size; omega)
     simpa using this
    ·have := owns_lower h.f (show w.heap.size ≤ E.B by have := HG.out.2.2.2; have := hb1.size; omega)
     simpa using this)
   clear hc hk hB3 hgB CG
   go_upto_region 7 with (fail)
   go_region_held3 (fun W' => W'.cell? ⟨w1.heap.size, 2, none⟩ = some ov ∧ W'.cell? ⟨w1.heap.size, 3, none⟩ = some nv) (exact HSC.out _ (Below.refl _ _).drew) (fail)
   go_wp2_with fail
   exact HZ.out
  ·have hn1 : ¬ (fr.length : Int) = (l.length : Int) := by omega
   have HZ := Lib.hid (HN2.out hw hn w1 hb1)
   go_wp2_with fail
   exact HZ.out
end Go.Proofs.YtmklemelgdilkaaDoor
namespace Go.Proofs.YtmklemelgdilkaaDoor
set_option linter.all false
open Go.RowKit

theorem partsV_split (l : List Prt) (lo : Nat) (i : Nat) (h : lo ≤ l.length) : (partsV (l.drop lo))[i]? = (partsV l)[lo * 3 + i]? := by
 have := partsV_append (l.take lo) (l.drop lo)
 rw [List.take_append_drop] at this
 rw [this, List.getElem?_append_right (by rw [partsV_length, List.length_take]; omega), partsV_length, List.length_take, Nat.min_eq_left h]
 congr 1; omega
theorem slice_piece (w : World) (v : Value) (l : List Prt) (hr : PartRow w v l) (lo hi : Nat) (h1 : lo ≤ hi) (h2 : hi ≤ l.length) :
  ∃ p cap, (∀ w', (Instr.slice 23 v (some (.int .i64 (lo : Int))) (some (.int .i64 (hi : Int))) none).run Tryd.prog w' = .ok (.slice p (hi - lo) cap) w') ∧ PartRow w (.slice p (hi - lo) cap) (piece l lo hi) := by
 obtain ⟨a, cap, rfl, hc⟩ := hr.slice
 have hlen : (piece l lo hi).length = hi - lo := by unfold piece; rw [List.length_take, List.length_drop]; omega
 refine ⟨if cap = lo then a else a.map (·.add (lo * 3)), cap - lo, fun w' => ?_, ?_⟩
 ·rw [run_slice_lh w' _ _ _ _ elem_part .i64 .i64 (lo : Int) (hi : Int) (by omega) (by omega) (by omega), size_part_run]
  simp only [Result.andThen, sliced, Int.toNat_natCast]
 ·unfold PartRow
  rw [hlen]
  refine ⟨by rw [partsV_length, hlen], _, _, rfl, by omega, fun e => ?_, fun hpos => ?_⟩
  ·by_cases h : cap = lo
   ·omega
   ·rw [if_neg h] at e
    have : a = none := by cases a with
     | none => rfl
     | some x => cases e
    obtain ⟨_, a', cap', hv, hc', hz, _⟩ := hr
    simp only [Value.slice.injEq] at hv
    obtain ⟨rfl, _, rfl⟩ := hv
    have := hz this
    omega
  ·obtain ⟨b, off, rfl, _, _, hbl, _⟩ := hr.at (Below.refl _ _) (show 0 < l.length by omega)
   rw [if_neg (by omega)]
   refine ⟨b, off + lo * 3, by simp [Addr.add], hbl, fun i hi' => ?_⟩
   obtain ⟨_, a', cap', hv, _, _, hcell⟩ := hr
   simp only [Value.slice.injEq] at hv
   obtain ⟨e1, _, _⟩ := hv
   obtain ⟨b', off', e2, _, hc2⟩ := hcell (by omega)
   rw [← e1] at e2
   simp only [Option.some.injEq, Addr.mk.injEq, and_true] at e2
   obtain ⟨rfl, rfl⟩ := e2
   rw [Nat.add_assoc, hc2 _ (by omega)]
   unfold piece
   have h5 := partsV_append ((l.drop lo).take (hi - lo)) ((l.drop lo).drop (hi - lo))
   rw [List.take_append_drop] at h5
   have h6 : (partsV ((l.drop lo).take (hi - lo)))[i]? = (partsV (l.drop lo))[i]? := by
    rw [h5, List.getElem?_append_left (by rw [partsV_length, List.length_take, List.length_drop]; omega)]
   rw [h6, partsV_split l lo i (by omega)]
end Go.Proofs.YtmklemelgdilkaaDoor
