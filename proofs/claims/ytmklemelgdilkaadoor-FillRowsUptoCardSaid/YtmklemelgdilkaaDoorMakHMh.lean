/- Layer 20: the maker's hole, walked (printed by tools/genmakh.py). -/
import Derived.Test.YtmklemelgdilkaaDoorInstWMh
import Derived.Test.YtmklemelgdilkaaDoorRightWMh
namespace Go.Proofs.YtmklemelgdilkaaDoor
set_option linter.all false
attribute [local irreducible] Calls
attribute [local irreducible] wpStill
open Go.RowKit

theorem results_cell_tmpB {P : Program} {fn : Func} {p t1 : Tmp} {ty : TypeId} (h : fn.results = #[.cell p ty, .tmp t1]) (tmps : Array Value) (w : World) (g : Nat) (t : TypeId) (cs : Array Value) (fr : Nat × Nat) (d : TypeDesc)
  (hp : tmps.getD p undef = .pointer (some ⟨g, 0, none⟩)) (hg : w.heap[g]? = some (.cells cs t fr))
  (hu : P.underlying ty = some d) (hd : (match d with | .struct _ | .array _ _ => true | _ => false) = true) (hi : (P.info? ty).map (·.size) = some cs.size) :
  (results fn tmps).run P w = .ok (.tuple #[.agg cs, tmps.getD t1 undef]) w := by
 have hp' : tmps[p]?.getD undef = .pointer (some ⟨g, 0, none⟩) := by simpa using hp
 simp [results, h, hp', asAddr, run_loadVar_row w g t ty cs fr d hg hu hd hi]
structure MkF (w0 : World) (E : MkE) : Prop where
 H : HoleRow w0 E.vh E.r.holes
 Y : PartRow w0 E.vy E.r.by'
 L : PartRow w0 E.vl E.l
 N : RowInts w0 E.ve .i64 (endsL E.l)
 K : BindRow w0 E.vb E.bs
 sr : SmallR E.r
 sl : SmallL E.l
 rz : ruleZ E.r = 0
 wl : wellB E.l = true
 rt : rightB E.r E.l E.bs = true
theorem MkF.bl {w0 : World} {E : MkE} (F : MkF w0 E) : E.bs.length = E.r.holes.length := (rightB_iff.1 F.rt).1
def bindA (b : Bnd) : Value := .agg #[.string b.1, .int .i64 b.2.1, .int .i64 b.2.2]
@[irreducible] def mkHolePost (E : MkE) (p : Nat) (W : World) (e : Ending) (w' : World) : Prop :=
 Below W.heap.size W w' ∧ match holeOf E.r.by' E.r.holes p with
 | some h => ∃ hh : h < E.bs.length, e = .returned (.tuple #[bindA E.bs[h], .bool true])
 | none => e = .returned (.tuple #[bindA (⟨#[]⟩, 0, 0), .bool false])
def mhOK (E : MkE) (p : Nat) (x : Bool) (b : Bnd) : Prop := (x = true → ∃ h, holeOf E.r.by' E.r.holes p = some h ∧ ∃ hh : h < E.bs.length, b = E.bs[h]) ∧ (x = false → holeOf E.r.by' E.r.holes p = none ∧ b = (⟨#[]⟩, 0, 0))
def mhRel (E : MkE) (p : Nat) (W1 : World) (xv nv : Value) (wr : World) : Prop := ∃ k : Nat, nv = .int .i64 (k : Int) ∧ xv = .bool false ∧ k ≤ E.r.holes.length ∧ (∀ j (hj : j < E.r.holes.length), j < k → standsAt E.r.by' p E.r.holes[j] = false) ∧ Below W1.heap.size W1 wr
theorem BdK.fz {W : World} {g : Nat} {b : Bnd} (h : BdK W g b) : W.frozen? ⟨g, 0, none⟩ = false ∧ W.frozen? ⟨g, 1, none⟩ = false ∧ W.frozen? ⟨g, 2, none⟩ = false ∧ ∀ j, W.frozen? ⟨g, j, none⟩ = false := by
 unfold BdK at h
 simp [World.frozen?, h]
theorem BdK.set3 {W : World} {g : Nat} {b : Bnd} (h : BdK W g b) (q : Bnd) : BdK (((W.setCell ⟨g, 0, none⟩ (.string q.1)).setCell ⟨g, 1, none⟩ (.int .i64 q.2.1)).setCell ⟨g, 2, none⟩ (.int .i64 q.2.2)) g q := by
 unfold BdK at *
 have h1 := heap_setCell_same W g 0 _ _ (.string q.1) h
 have h2 := heap_setCell_same _ g 1 _ _ (.int .i64 q.2.1) h1
 have h3 := heap_setCell_same _ g 2 _ _ (.int .i64 q.2.2) h2
 exact h3
set_option maxRecDepth 100000 in
set_option maxHeartbeats 16000000 in
theorem mk_hole (w0 : World) (E : MkE) (F : MkF w0 E) (out : List PN) (lg : Bool) (ov fv : Value) (W : World) (hi : MkIn w0 E out lg ov fv W) (p : Nat) (hp : p < E.r.by'.length) :
  Calls Tryd.prog 30 #[.pointer (some ⟨E.g, 0, none⟩), .int .i64 (p : Int)] W (mkHolePost E p W) := by
 have HQ : RowKit.Hid (∀ w' (b : Bnd) (x : Bool), (x = true → ∃ h, holeOf E.r.by' E.r.holes p = some h ∧ ∃ hh : h < E.bs.length, b = E.bs[h]) → (x = false → holeOf E.r.by' E.r.holes p = none ∧ b = (⟨#[]⟩, 0, 0)) → Below W.heap.size W w' → mkHolePost E p W (.returned (.tuple #[bindA b, .bool x])) w') := Lib.hid fun w' b x h1 h2 hb => by
  unfold mkHolePost
  refine ⟨hb, ?_⟩
  cases x with
  | true =>
   obtain ⟨h, e, hh, rfl⟩ := h1 rfl
   rw [e]; exact ⟨hh, rfl⟩
  | false =>
   obtain ⟨e, rfl⟩ := h2 rfl
   rw [e]
 generalize mkHolePost E p W = Q at *
 have HF : RowKit.Hid (∀ (tm : Array Value) W' (b : Bnd) (x : Bool), mhOK E p x b → Below W.heap.size W W' → BdK W' W.heap.size b → tm.getD 4 undef = .pointer (some ⟨W.heap.size, 0, none⟩) → tm.getD 5 undef = .bool x → bodyPost Tryd.prog Tryd.f30 Q .ret ⟨tm, []⟩ W') :=
  Lib.hid fun tm W' b x h1 h2 h3 h4 h5 => by
   refine bodyPost_ret (results_cell_tmpB rfl tm W' W.heap.size 53 #[.string b.1, .int .i64 b.2.1, .int .i64 b.2.2] (0, 0) _ h4 h3 Tryd.underlying53 rfl (by kernel_rfl)) rfl ?_
   rw [h5]
   exact HQ.out W' b x h1.1 h1.2 h2
 have hyl := F.sr.b.1
 have hhl := F.sr.h.1
 have hbl := F.bl
 obtain ⟨ah, ch, hvh, hch⟩ := Row.shape F.H
 obtain ⟨ay, cy, hvy, hcy⟩ := F.Y.slice
 obtain ⟨ab, cb, hvb, hcb⟩ := Row.shape F.K
 have HWW := Lib.hid hi.b
 have HKH : RowKit.Hid (HoleRow w0 (.slice ah E.r.holes.length ch) E.r.holes) := Lib.hid (hvh ▸ F.H)
 have HKB : RowKit.Hid (BindRow w0 (.slice ab E.bs.length cb) E.bs) := Lib.hid (hvb ▸ F.K)
 have HKY : RowKit.Hid (PartRow w0 (.slice ay E.r.by'.length cy) E.r.by') := Lib.hid (hvy ▸ F.Y)
 obtain ⟨yb, yo, rfl, y1, y2, y3, y4⟩ := HKY.out.at (Below.refl _ _) (show 0 < E.r.by'.length by omega)
 clear y1 y2 y3 y4
 have HCE : RowKit.Hid (∀ W', Below W.heap.size W W' → W'.cell? ⟨E.g, 2, none⟩ = some (.slice ah E.r.holes.length ch) ∧ W'.cell? ⟨E.g, 4, none⟩ = some (.slice (some ⟨yb, yo, none⟩) E.r.by'.length cy) ∧ W'.cell? ⟨E.g, 7, none⟩ = some (.slice ab E.bs.length cb) ∧ ∀ i (hl : i < E.r.by'.length), W'.cell? ⟨yb, yo + i * 3, none⟩ = some (.int .u8 ((E.r.by'[i]).1 : Int)) ∧ W'.cell? ⟨yb, yo + i * 3 + 1, none⟩ = some (.int .i64 (E.r.by'[i]).2.1) ∧ W'.cell? ⟨yb, yo + i * 3 + 2, none⟩ = some (.string (E.r.by'[i]).2.2)) := Lib.hid fun W' hb => by
  obtain ⟨c0, c1, c2, c3, c4, c5, c6, c7, _⟩ := (hi.below hb).s.cells
  refine ⟨by rw [c2, hvh], by rw [c4, hvy], by rw [c7, hvb], ?_⟩
  obtain ⟨b2, o2, e', _, _, _, hcc⟩ := HKY.out.at (bthen HWW.out hb) (show 0 < E.r.by'.length by omega)
  simp only [Option.some.injEq, Addr.mk.injEq, and_true] at e'
  obtain ⟨rfl, rfl⟩ := e'
  exact hcc
 clear hvh hvy hvb hi F
 have HZB : RowKit.Hid (BdK (W.alloc (.cells #[.string ⟨#[]⟩, .int .i64 0, .int .i64 0] 53)) W.heap.size (⟨#[]⟩, 0, 0)) := Lib.hid (heap_alloc_new _ _)
 have HW1 : RowKit.Hid (Below W.heap.size W (W.alloc (.cells #[.string ⟨#[]⟩, .int .i64 0, .int .i64 0] 53))) := Lib.hid ((Below.refl _ _).alloc (Nat.le_refl _) _)
 go_enter Tryd.func30, Tryd.ntmps30
 go_upto_region 1 with (fail)
 generalize W.alloc (.cells #[.string ⟨#[]⟩, .int .i64 0, .int .i64 0] 53) = W1 at *
 obtain ⟨c2, c4, c7, hyc⟩ := HCE.out W1 HW1.out
 clear hyc
 go_wp2_with fail
 clear c2 c4 c7
 go_loopw [5, 16] (fun xv nv wr => mhRel E p W1 xv nv wr) (fun _ nv _ => E.r.holes.length - (intOf nv).toNat)
 case atStart => exact ⟨0, rfl, rfl, Nat.zero_le _, fun j hj h => absurd h (Nat.not_lt_zero _), Below.refl _ _⟩
 case round =>
  obtain ⟨k, rfl, rfl, hk, hno, hb⟩ := hrel
  have HB := Lib.hid hb
  have HNO := Lib.hid hno
  clear hb hno
  by_cases hlt : k < E.r.holes.length
  case neg =>
   obtain rfl : k = E.r.holes.length := by omega
   have HN : RowKit.Hid (holeOf E.r.by' E.r.holes p = none) := Lib.hid (by
    unfold holeOf
    rw [List.findIdx?_eq_none_iff]
    intro x hx
    obtain ⟨j, hj, rfl⟩ := List.mem_iff_getElem.1 hx
    exact HNO.out j hj hj)
   have HR5 : RowKit.Hid (BdK wr W.heap.size (⟨#[]⟩, 0, 0)) := Lib.hid (HZB.out.keep HB.out)
   obtain ⟨r0, r1, r2, rz⟩ := HR5.out.fz
   obtain ⟨s0, s1, s2⟩ := HR5.out.cells
   simp only [] at s0 s1 s2
   have HF5 := Lib.hid (HR5.out.set3 (⟨#[]⟩, 0, 0))
   have HBF := Lib.hid (((((bthen HW1.out HB.out).setCell (p := ⟨W.heap.size, 0, none⟩) (Nat.le_refl _) (.string ⟨#[]⟩)).setCell (p := ⟨W.heap.size, 1, none⟩) (Nat.le_refl _) (.int .i64 0))).setCell (p := ⟨W.heap.size, 2, none⟩) (Nat.le_refl _) (.int .i64 0))
   go_wp2_with fail
   refine HF.out _ _ (⟨#[]⟩, 0, 0) false ⟨fun h => (by cases h), fun _ => ⟨HN.out, rfl⟩⟩ HBF.out HF5.out ?_ ?_
   ·rfl
   ·rfl
  have hkb : k < E.bs.length := by omega
  have HX : RowKit.Hid (standsAt E.r.by' p E.r.holes[k] = false → ∀ W', Below W1.heap.size W1 W' → mhRel E p W1 (.bool false) (.int .i64 ((k : Int) + 1)) W') := Lib.hid fun h W' hb => ⟨k + 1, by push_cast; rfl, rfl, hlt, fun j hj hjk => by
   by_cases e : j = k
   ·subst e; exact h
   ·exact HNO.out j hj (by omega), hb⟩
  have HY : RowKit.Hid (standsAt E.r.by' p E.r.holes[k] = true → mhOK E p true E.bs[k]) := Lib.hid fun h => ⟨fun _ => ⟨k, by
   unfold holeOf
   rw [List.findIdx?_eq_some_iff_getElem.2 ⟨hlt, h, fun j hj => by rw [HNO.out j (by omega) hj]; decide⟩], hkb, rfl⟩, fun h => by cases h⟩
  obtain ⟨hb1, ho1, rfl, y1, y2, y3, hkc⟩ := HKH.out.at (bthen HWW.out (bthen HW1.out HB.out)) (show 0 < E.r.holes.length by omega)
  clear y1 y2 y3
  obtain ⟨d0, d1⟩ := hkc k hlt
  clear hkc
  generalize hxx : E.r.holes[k] = x at *
  clear hxx
  obtain ⟨xs, xk⟩ := x
  simp only [] at d0 d1
  have hk0 : (0 : Int) ≤ (k : Int) := by omega
  have hkl : (k : Int) < E.r.holes.length := by omega
  have hkc : (k : Int) < ch := by omega
  have hkb0 : (k : Int) < E.bs.length := by omega
  have hkbc : (k : Int) < cb := by omega
  have hp0 : (0 : Int) ≤ (p : Int) := by omega
  have hpl : (p : Int) < E.r.by'.length := by omega
  have hpc : (p : Int) < cy := by omega
  have hwp : IntKind.i64.wrap ((p : Int) + 1) = (p : Int) + 1 := by rw [IntKind.wrap_i64]; omega
  have HH2 : RowKit.Hid (HoK (wr.alloc (.cells #[.string xs, .int .u8 (xk : Int)] 51)) wr.heap.size (xs, xk)) := Lib.hid (heap_alloc_new _ _)
  have HB2 := Lib.hid (HB.out.alloc HB.out.size (.cells #[.string xs, .int .u8 (xk : Int)] 51))
  go_upto_region 5 with (fail)
  clear d0 d1
  generalize wr.alloc (.cells #[.string xs, .int .u8 (xk : Int)] 51) = w2 at *
  obtain ⟨k0, k1⟩ := HH2.out.cells
  simp only [] at k0 k1
  have CS := Lib.hid (fun W => fill_stmts xs xk W)
  go_wp2_with fail
  refine (CS.out _).mono ?_
  rintro e w3 ⟨rfl, hb3⟩
  have HH3 := Lib.hid (HH2.out.keep hb3)
  have HB3 := Lib.hid (bthen HB2.out hb3)
  clear hb3 HB2 HH2 k0 k1
  obtain ⟨k0, k1⟩ := HH3.out.cells
  simp only [] at k0 k1
  cases hst : isStmt xk with
  | true =>
   rw [hst] at CS
   go_wp2_with fail
   refine (CS.out _).mono ?_
   rintro e w4 ⟨rfl, hb4⟩
   have HH4 := Lib.hid (HH3.out.keep hb4)
   have HB4 := Lib.hid (bthen HB3.out hb4)
   clear hb4 HB3 HH3 k0 k1 CS
   obtain ⟨k0, k1⟩ := HH4.out.cells
   obtain ⟨c2, c4, c7, hyc⟩ := HCE.out w4 (bthen HW1.out HB4.out)
   obtain ⟨n0, n1, n2⟩ := hyc p hp
   by_cases h50 : (E.r.by'[p]).1 = 50
   case neg =>
    have hsa : standsAt E.r.by' p (xs, xk) = false := by
     unfold standsAt
     rw [if_pos hst, List.getElem?_eq_getElem hp]
     cases E.r.by'[p + 1]? with
     | none => rfl
     | some y => simp [h50]
    have HZ := Lib.hid (HX.out hsa w4 HB4.out)
    have g50 : (((E.r.by'[p]).1 : Int) != 50) = true := by rw [bne_iff_ne]; omega
    have g51 : (((E.r.by'[p]).1 : Int) == 50) = false := by rw [beq_eq_false_iff_ne]; omega
    clear hsa HX HY hyc h50
    go_wp2_with fail
    exact ⟨HZ.out, by simp only [intOf]; omega⟩
   have g50 : (((E.r.by'[p]).1 : Int) != 50) = false := by rw [bne_eq_false_iff_eq]; omega
   have g51 : (((E.r.by'[p]).1 : Int) == 50) = true := by rw [beq_iff_eq]; omega
   by_cases hnx : p + 1 < E.r.by'.length
   case neg =>
    have hsa : standsAt E.r.by' p (xs, xk) = false := by
     unfold standsAt
     rw [if_pos hst, List.getElem?_eq_getElem hp, List.getElem?_eq_none (by omega)]
    have HZ := Lib.hid (HX.out hsa w4 HB4.out)
    have g52 : (E.r.by'.length : Int) ≤ (p : Int) + 1 := by omega
    clear hsa HX HY hyc h50
    go_wp2_with fail
    exact ⟨HZ.out, by simp only [intOf]; omega⟩
   have hsa : standsAt E.r.by' p (xs, xk) = ((E.r.by'[p + 1]).1 == 26 && decide ((E.r.by'[p + 1]).2.2 = xs)) := by
    unfold standsAt
    rw [if_pos hst, List.getElem?_eq_getElem hp, List.getElem?_eq_getElem hnx]
    simp [h50]
   rw [hsa] at HX HY
   have g52 : ¬ (E.r.by'.length : Int) ≤ (p : Int) + 1 := by omega
   have hq0 : (0 : Int) ≤ (p : Int) + 1 := by omega
   have hql : (p : Int) + 1 < E.r.by'.length := by omega
   have hqc : (p : Int) + 1 < cy := by omega
   clear hsa h50
   go_upto_region 8 with (fail)
   clear n0 n1 n2 g50 g51
   obtain ⟨q0, q1, q2⟩ := hyc (p + 1) hnx
   clear hyc
   generalize hqq : E.r.by'[p + 1] = q at *
   clear hqq
   obtain ⟨qk, qn, qw⟩ := q
   simp only [] at q0 q1 q2 HX HY
   have HP5 : RowKit.Hid (PK (w4.alloc (.cells #[.int .u8 (qk : Int), .int .i64 qn, .string qw] 38)) w4.heap.size (qk, qn, qw)) := Lib.hid (PK.alloc_new w4 (qk, qn, qw))
   have HB5 := Lib.hid (HB4.out.alloc HB4.out.size (.cells #[.int .u8 (qk : Int), .int .i64 qn, .string qw] 38))
   have HH5 : RowKit.Hid (HoK (w4.alloc (.cells #[.int .u8 (qk : Int), .int .i64 qn, .string qw] 38)) wr.heap.size (xs, xk)) := Lib.hid (HH4.out.keep ((Below.refl _ _).alloc (Nat.le_refl _) _))
   go_upto_region 9 with (fail)
   clear q0 q1 q2 c2 c4 c7 k0 k1
   generalize w4.alloc (.cells #[.int .u8 (qk : Int), .int .i64 qn, .string qw] 38) = w5 at *
   have p0 := HP5.out.c0
   have p2 := HP5.out.c2
   have k0 := HH5.out.cells.1
   simp only [] at p0 p2 k0
   by_cases h26 : qk = 26
   case neg =>
    have HZ := Lib.hid (HX.out (by simp [h26]) w5 HB5.out)
    have g26 : ((qk : Int) == 26) = false := by rw [beq_eq_false_iff_ne]; omega
    clear HX HY h26
    go_wp2_with fail
    exact ⟨HZ.out, by simp only [intOf]; omega⟩
   subst h26
   have gw : (qw.toList == xs.toList) = decide (qw = xs) := bytes_eqR
   by_cases hw : qw = xs
   case neg =>
    have HZ := Lib.hid (HX.out (by simp [hw]) w5 HB5.out)
    rw [decide_eq_false hw] at gw
    clear HX HY hw
    go_wp2_with fail
    exact ⟨HZ.out, by simp only [intOf]; omega⟩
   rw [decide_eq_true hw] at gw
   have HZ := Lib.hid (HY.out (by simp [hw]))
   have HR5 : RowKit.Hid (BdK w5 W.heap.size (⟨#[]⟩, 0, 0)) := Lib.hid (HZB.out.keep HB5.out)
   obtain ⟨c2, c4, c7, hyc2⟩ := HCE.out w5 (bthen HW1.out HB5.out)
   clear hyc2
   obtain ⟨bb, bo, hvb2, y1, y2, y3, hbc⟩ := HKB.out.at (bthen HWW.out (bthen HW1.out HB5.out)) (show 0 < E.bs.length by omega)
   clear y1 y2 y3
   obtain ⟨b0, b1, b2⟩ := hbc k hkb
   clear hbc
   subst hvb2
   have HF5 := Lib.hid (HR5.out.set3 (E.bs[k]))
   have HBF := Lib.hid (((((bthen HW1.out HB5.out).setCell (p := ⟨W.heap.size, 0, none⟩) (Nat.le_refl _) (.string (E.bs[k]).1)).setCell (p := ⟨W.heap.size, 1, none⟩) (Nat.le_refl _) (.int .i64 (E.bs[k]).2.1))).setCell (p := ⟨W.heap.size, 2, none⟩) (Nat.le_refl _) (.int .i64 (E.bs[k]).2.2))
   obtain ⟨r0, r1, r2, rz⟩ := HR5.out.fz
   obtain ⟨s0, s1, s2⟩ := HR5.out.cells
   simp only [] at s0 s1 s2
   clear HX HY hw
   generalize E.bs[k] = bd at *
   obtain ⟨bn, bf, bt⟩ := bd
   simp only [] at b0 b1 b2 HF5 HBF HZ
   go_wp2_with fail
   exact HF.out _ _ (bn, bf, bt) true HZ.out HBF.out HF5.out rfl rfl
  | false =>
   rw [hst] at CS
   go_wp2_with fail
   refine (CS.out _).mono ?_
   rintro e w4 ⟨rfl, hb4⟩
   have HH4 := Lib.hid (HH3.out.keep hb4)
   have HB4 := Lib.hid (bthen HB3.out hb4)
   clear hb4 HB3 HH3 k0 k1 CS
   obtain ⟨k0, k1⟩ := HH4.out.cells
   obtain ⟨c2, c4, c7, hyc⟩ := HCE.out w4 (bthen HW1.out HB4.out)
   have hsa : standsAt E.r.by' p (xs, xk) = ((E.r.by'[p]).1 == 26 && decide ((E.r.by'[p]).2.2 = xs)) := by
    unfold standsAt
    rw [if_neg (by rw [hst]; decide), List.getElem?_eq_getElem hp]
   rw [hsa] at HX HY
   have g52 : ¬ (E.r.by'.length : Int) ≤ (p : Int) := by omega
   clear hsa
   go_upto_region 8 with (fail)
   obtain ⟨q0, q1, q2⟩ := hyc p hp
   clear hyc
   generalize hqq : E.r.by'[p] = q at *
   clear hqq
   obtain ⟨qk, qn, qw⟩ := q
   simp only [] at q0 q1 q2 HX HY
   have HP5 : RowKit.Hid (PK (w4.alloc (.cells #[.int .u8 (qk : Int), .int .i64 qn, .string qw] 38)) w4.heap.size (qk, qn, qw)) := Lib.hid (PK.alloc_new w4 (qk, qn, qw))
   have HB5 := Lib.hid (HB4.out.alloc HB4.out.size (.cells #[.int .u8 (qk : Int), .int .i64 qn, .string qw] 38))
   have HH5 : RowKit.Hid (HoK (w4.alloc (.cells #[.int .u8 (qk : Int), .int .i64 qn, .string qw] 38)) wr.heap.size (xs, xk)) := Lib.hid (HH4.out.keep ((Below.refl _ _).alloc (Nat.le_refl _) _))
   go_upto_region 9 with (fail)
   clear q0 q1 q2 c2 c4 c7 k0 k1
   generalize w4.alloc (.cells #[.int .u8 (qk : Int), .int .i64 qn, .string qw] 38) = w5 at *
   have p0 := HP5.out.c0
   have p2 := HP5.out.c2
   have k0 := HH5.out.cells.1
   simp only [] at p0 p2 k0
   by_cases h26 : qk = 26
   case neg =>
    have HZ := Lib.hid (HX.out (by simp [h26]) w5 HB5.out)
    have g26 : ((qk : Int) == 26) = false := by rw [beq_eq_false_iff_ne]; omega
    clear HX HY h26
    go_wp2_with fail
    exact ⟨HZ.out, by simp only [intOf]; omega⟩
   subst h26
   have gw : (qw.toList == xs.toList) = decide (qw = xs) := bytes_eqR
   by_cases hw : qw = xs
   case neg =>
    have HZ := Lib.hid (HX.out (by simp [hw]) w5 HB5.out)
    rw [decide_eq_false hw] at gw
    clear HX HY hw
    go_wp2_with fail
    exact ⟨HZ.out, by simp only [intOf]; omega⟩
   rw [decide_eq_true hw] at gw
   have HZ := Lib.hid (HY.out (by simp [hw]))
   have HR5 : RowKit.Hid (BdK w5 W.heap.size (⟨#[]⟩, 0, 0)) := Lib.hid (HZB.out.keep HB5.out)
   obtain ⟨c2, c4, c7, hyc2⟩ := HCE.out w5 (bthen HW1.out HB5.out)
   clear hyc2
   obtain ⟨bb, bo, hvb2, y1, y2, y3, hbc⟩ := HKB.out.at (bthen HWW.out (bthen HW1.out HB5.out)) (show 0 < E.bs.length by omega)
   clear y1 y2 y3
   obtain ⟨b0, b1, b2⟩ := hbc k hkb
   clear hbc
   subst hvb2
   have HF5 := Lib.hid (HR5.out.set3 (E.bs[k]))
   have HBF := Lib.hid (((((bthen HW1.out HB5.out).setCell (p := ⟨W.heap.size, 0, none⟩) (Nat.le_refl _) (.string (E.bs[k]).1)).setCell (p := ⟨W.heap.size, 1, none⟩) (Nat.le_refl _) (.int .i64 (E.bs[k]).2.1))).setCell (p := ⟨W.heap.size, 2, none⟩) (Nat.le_refl _) (.int .i64 (E.bs[k]).2.2))
   obtain ⟨r0, r1, r2, rz⟩ := HR5.out.fz
   obtain ⟨s0, s1, s2⟩ := HR5.out.cells
   simp only [] at s0 s1 s2
   clear HX HY hw
   generalize E.bs[k] = bd at *
   obtain ⟨bn, bf, bt⟩ := bd
   simp only [] at b0 b1 b2 HF5 HBF HZ
   go_wp2_with fail
   exact HF.out _ _ (bn, bf, bt) true HZ.out HBF.out HF5.out rfl rfl
end Go.Proofs.YtmklemelgdilkaaDoor
