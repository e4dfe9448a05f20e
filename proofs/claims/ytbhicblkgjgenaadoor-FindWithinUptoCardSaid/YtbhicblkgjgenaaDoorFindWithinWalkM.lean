/- The statement FindWithin, walked: the call returns true. -/
import Derived.Test.YtbhicblkgjgenaaDoorMapSM
import Derived.Test.YtbhicblkgjgenaaDoorAtPM
import Derived.Test.YtbhicblkgjgenaaDoorAppEqM
import Derived.Test.YtbhicblkgjgenaaDoorFix18M
import Derived.Test.YtbhicblkgjgenaaDoorFindHoldsWalkM
import Derived.Test.YtbhicblkgjgenaaDoorStillM
namespace Go.Proofs.YtbhicblkgjgenaaDoor
set_option linter.all false

def flipB (N : Nat) (a y : Mch) : Bool := decide ((a.1 : Int) = (N : Int) - 1 - (y.1 : Int) ∧ a.2 = y.2)
theorem allM_rule {rules : List RuleM} {l : List Prt} {m : Mch} (h : m ∈ allM rules l) : m.1 < rules.length := by
  obtain ⟨_, r, τ, hr, _⟩ := mem_allM.1 h
  exact (List.getElem?_eq_some_iff.1 hr).1
theorem order_one {rules : List RuleM} {l : List Prt} {a : Mch} (ha : a ∈ allM rules l) : cntM (flipB rules.length a) (allM rules.reverse l) = 1 := by
  have hn := allM_rule ha
  obtain ⟨n, i, b⟩ := a
  have hm := (allM_back hn).1 ha
  refine cnt_one (allM_apart rules.reverse l) hm ?_ ?_ ?_
  · unfold flipB
    simp only [decide_eq_true_eq, and_true]
    simp only [] at hn
    omega
  · intro y hy hq
    unfold flipB at hq
    simp only [decide_eq_true_eq] at hq
    obtain ⟨h1, h2⟩ := hq
    obtain ⟨y1, y2⟩ := y
    simp only [] at h1 h2
    subst h2
    have := allM_rule hy
    rw [List.length_reverse] at this
    simp only [] at this hn
    rw [show y1 = rules.length - 1 - n by omega]
  · intro y h
    rcases h with h | ⟨_, h⟩
    · omega
    · omega
theorem rev_range (N : Nat) : (List.range N).map (fun n => N - 1 - n) = (List.range N).reverse := by
  apply List.ext_getElem
  · simp
  · intro k h1 h2
    simp
theorem order_len (rules : List RuleM) (l : List Prt) : (allM rules l).length = (allM rules.reverse l).length := by
  unfold allM
  rw [List.length_flatMap, List.length_flatMap]
  congr 1
  apply List.map_congr_left
  intro i _
  unfold atM
  rw [List.length_flatMap, List.length_flatMap, List.length_reverse]
  have e : (List.range rules.length).map (fun n => (oneM rules.reverse l i n).length) = ((List.range rules.length).map (fun n => (oneM rules l i n).length)).reverse := by
    rw [← List.map_reverse, ← rev_range, List.map_map]
    apply List.map_congr_left
    intro n hn
    rw [List.mem_range] at hn
    simp only [Function.comp]
    unfold oneM
    rw [List.getElem?_reverse hn]
    cases rules[rules.length - 1 - n]? with
    | none => rfl
    | some r =>
      simp only []
      cases atZ r l i <;> rfl
  rw [e, List.sum_reverse]
theorem cnt_snoc {α : Type} (q : α → Bool) {l : List α} {k : Nat} (hk : k < l.length) : cntM q (l.take (k + 1)) = cntM q (l.take k) + if q l[k] = true then 1 else 0 := by
  unfold cntM
  rw [take_snoc hk, List.filter_append, List.length_append]
  congr 1
  by_cases h : q l[k] = true
  · rw [if_pos h]; simp [h]
  · rw [if_neg h]; simp [h]
theorem cnt_le {α : Type} (q : α → Bool) (l : List α) : cntM q l ≤ l.length := List.length_filter_le _ _
end Go.Proofs.YtbhicblkgjgenaaDoor
namespace Go.Proofs.YtbhicblkgjgenaaDoor
set_option linter.all false

def inB (i e : Nat) (m : Mch) : Bool := decide (i ≤ m.2.1 ∧ m.2.1 < e)
theorem filt_at {α : Type} (q : α → Bool) {l : List α} {n : Nat} (hn : n < l.length) (h : q l[n] = true) : (l.filter q)[cntM q (l.take n)]? = some l[n] := by
  have e : l = l.take n ++ (l[n] :: l.drop (n + 1)) := by rw [← List.drop_eq_getElem_cons hn, List.take_append_drop]
  have e2 : l.filter q = (l.take n).filter q ++ (l[n] :: (l.drop (n + 1)).filter q) := by
    conv => lhs; rw [e]
    rw [List.filter_append, List.filter_cons, if_pos h]
  rw [e2]
  unfold cntM
  rw [List.getElem?_append_right (Nat.le_refl _), Nat.sub_self]
  rfl
theorem err_within {rules : List RuleM} {l : List Prt} (hl : wellB l = true) {i : Nat} (hi : i < l.length) : findErr rules (piece l i (endB l i)) = findErr rules l := by
  unfold findErr
  rw [hl, (piece_well (well_rows hl) hi).1]
theorem within_eq {rules : List RuleM} {l : List Prt} (hl : wellB l = true) {i : Nat} (hi : i < l.length) : (allM rules l).filter (inB i (endB l i)) = (allM rules (piece l i (endB l i))).map (shiftM i) := allM_within hl hi
/-- A match's binds are few and small. -/
theorem allM_binds {rules : List RuleM} {l : List Prt} (hs : ∀ r ∈ rules, r.holes.length ≤ 1048576) (hl : l.length ≤ 1048576) : ∀ m ∈ allM rules l, m.1 < rules.length ∧ m.2.1 < l.length ∧ m.2.2.length ≤ 1048576 ∧ ∀ b ∈ m.2.2, (0 ≤ b.2.1 ∧ b.2.1 ≤ 1048576) ∧ (0 ≤ b.2.2 ∧ b.2.2 ≤ 1048576) := by
  intro m hm
  obtain ⟨h1, r, τ, hr, ha, he⟩ := mem_allM.1 hm
  rw [he]
  exact ⟨(List.getElem?_eq_some_iff.1 hr).1, h1, by rw [(binds_small ha hl).1]; exact hs r (List.mem_of_getElem? hr), (binds_small ha hl).2⟩
end Go.Proofs.YtbhicblkgjgenaaDoor
namespace Go.Proofs.YtbhicblkgjgenaaDoor
set_option linter.all false
attribute [local irreducible] Calls
attribute [local irreducible] wpStill
open Go.RowKit

def fwAt (A : List Mch) (i e : Nat) (w0 : World) (kv nv : Value) (wr : World) : Prop :=
  ∃ n : Nat, nv = .int .i64 (n : Int) ∧ kv = .int .i64 (cntM (inB i e) (A.take n) : Int) ∧ n ≤ A.length ∧ Below w0.heap.size w0 wr
set_option maxRecDepth 100000 in
set_option maxHeartbeats 16000000 in
theorem FindWithin_walk (w : World) (vr : Value) (rs : List RuleX) (hr : RulesIn w vr rs) (hs : ∀ x ∈ rs, SmallR x.1) (hn : rs.length ≤ 1048576) (vl : Value) (l : List Prt) (hlr : PartRow w vl l) (hl : SmallL l) (i : Int) (hH : HeldM w) :
    Calls Tryd.prog 6 #[vr, vl, .int .i64 i] w (AnswersM w) := by
  have HQ : RowKit.Hid (∀ w', Below w.heap.size w w' → AnswersM w (.returned (.bool true)) w') := Lib.hid fun w' h => AnswersM.mk h
  generalize AnswersM w = Q at *
  have CF := Lib.hid (fun w' (hb : Below w.heap.size w w') => law18_fixed w' (hH.T.below hb) (hH.M.below hb))
  have CG := Lib.hid (law18_great rs hs hn vr l hl.1 vl 20000 w hr hlr)
  have CA := Lib.hid (fun w' (hb : Below w.heap.size w w') => all_flat rs hs l hl vr vl w' (hH.T.below hb) (hH.M.below hb) (hr.below hb) (hlr.below hb))
  have CB := Lib.hid (fun v k (hk : SmallL k) w' (hb : Below w.heap.size w w') (hv : PartRow w v k) => all_flat rs hs k hk vr v w' (hH.T.below hb) (hH.M.below hb) (hr.below hb) (hv.below hb))
  obtain ⟨ar, cr, rfl, hcr⟩ := hr.shape
  obtain ⟨al, cl, rfl, hcl⟩ := hlr.slice
  have HR := Lib.hid hr
  have HLR := Lib.hid hlr
  have HS := Lib.hid (show ∀ r ∈ rs.map (·.1), r.holes.length ≤ 1048576 from fun r hr => by obtain ⟨x, hx, rfl⟩ := List.mem_map.1 hr; exact (hs x hx).h.1)
  have HL := Lib.hid hl
  have hll := hl.1
  clear hr hlr hs hl hH
  go_enter Tryd.func6, Tryd.ntmps6
  go_wp2_with fail
  refine CG.out.mono ?_
  intro e w1 h1
  obtain ⟨y, rfl, hb1⟩ := h1.out
  have HB1 := Lib.hid hb1
  clear h1 hb1 CG
  cases y with
  | true =>
    go_wp2_with fail
    refine (CF.out w1 HB1.out).mono ?_
    rintro e wZ ⟨rfl, hbZ⟩
    have HX := Lib.hid (HQ.out wZ (bthen HB1.out hbZ))
    clear hbZ
    go_wp2_with fail
    exact HX.out
  | false =>
  have CW := Lib.hid (ref_Well11 l (by omega) _ w1 (HLR.out.below HB1.out))
  go_wp2_with fail
  refine CW.out.mono ?_
  rintro e w2 ⟨rfl, rfl⟩
  cases hw : wellB l with
  | false =>
    clear hw CW
    go_wp2_with fail
    refine (CF.out w1 HB1.out).mono ?_
    rintro e wZ ⟨rfl, hbZ⟩
    have HX := Lib.hid (HQ.out wZ (bthen HB1.out hbZ))
    clear hbZ
    go_wp2_with fail
    exact HX.out
  | true =>
  have HW := Lib.hid hw
  clear hw CW
  by_cases hi0 : i < 0
  · go_wp2_with fail
    refine (CF.out w1 HB1.out).mono ?_
    rintro e wZ ⟨rfl, hbZ⟩
    have HX := Lib.hid (HQ.out wZ (bthen HB1.out hbZ))
    clear hbZ
    go_wp2_with fail
    exact HX.out
  by_cases hil : (l.length : Int) ≤ i
  · go_wp2_with fail
    refine (CF.out w1 HB1.out).mono ?_
    rintro e wZ ⟨rfl, hbZ⟩
    have HX := Lib.hid (HQ.out wZ (bthen HB1.out hbZ))
    clear hbZ
    go_wp2_with fail
    exact HX.out
  obtain ⟨j, rfl⟩ : ∃ j : Nat, i = (j : Int) := ⟨i.toNat, by omega⟩
  have hj : j < l.length := by omega
  have hg := endB_gt (well_rows HW.out) hj
  have CE := Lib.hid (ref_End11 l (by omega) _ j (by omega) w1 (HLR.out.below HB1.out))
  rw [endR_end (well_rows HW.out) hj] at CE
  simp only [endI] at CE
  obtain ⟨sp, sc, hsl, hpr⟩ := slice_piece w _ l HLR.out j (endB l j) (by omega) hg.2
  have CB2 := Lib.hid (fun w' hb => CB.out _ _ (piece_small HL.out j (endB l j)) w' hb hpr)
  have HER := Lib.hid (err_within (rules := rs.map (·.1)) HW.out hj)
  have HIN := Lib.hid (within_eq (rules := rs.map (·.1)) HW.out hj)
  have HAB := Lib.hid (allM_binds (l := l) HS.out hll)
  have HPB := Lib.hid (allM_binds (l := piece l j (endB l j)) HS.out (by rw [piece_len (by omega) hg.2]; omega))
  have hz0 : (0 : Int) ≤ (endB l j : Int) := by omega
  have hzi : (j : Int) ≤ (endB l j : Int) := by omega
  have hzl : (endB l j : Int) ≤ l.length := by omega
  clear CB hpr
  generalize hPP : piece l j (endB l j) = PP at *
  generalize endB l j = zz at *
  clear hPP
  go_wp2_with fail
  refine CE.out.mono ?_
  rintro e w2 ⟨rfl, rfl⟩
  clear CE
  go_wp2_with fail
  refine (CA.out w1 HB1.out).mono ?_
  rintro e w2 ⟨va, vc, xs, rfl, hvc, hxs, hms, hb2, _, _⟩
  have HB2 := Lib.hid (bthen HB1.out hb2)
  have HMS := Lib.hid hms
  have HXS := Lib.hid hxs
  clear hb2 hms CA HB1 hxs
  go_wp2_with fail
  refine (CB2.out w2 HB2.out).mono ?_
  rintro e w4 ⟨va2, vc2, ys, rfl, hvc2, hys, hms, hb4, _, _⟩
  have HB4 := Lib.hid (bthen HB2.out hb4)
  have HMS4 := Lib.hid (HMS.out.below hb4)
  have HNS := Lib.hid hms
  rw [HER.out] at hys ⊢
  clear hsl
  generalize hze : findErr (rs.map (·.1)) l = ze at *
  have HZE := Lib.hid hze
  have HYS := Lib.hid hys
  clear hb4 hms hys CB2 HMS HB2 hze HER
  by_cases hz : ze = 0
  case neg =>
    have g1 : (ze != 0) = true := by rw [bne_iff_ne]; exact hz
    have g2 : (ze == 0) = false := by rw [beq_eq_false_iff_ne]; exact hz
    clear hz
    go_wp2_with fail
    refine (CF.out w4 HB4.out).mono ?_
    rintro e wZ ⟨rfl, hbZ⟩
    have HX := Lib.hid (HQ.out wZ (bthen HB4.out hbZ))
    clear hbZ
    go_wp2_with fail
    exact HX.out
  subst hz
  have hxs := HXS.out
  have hys := HYS.out
  rw [if_pos rfl] at hxs hys
  have h32 : rs.length ≤ 32 := by have := (findErr_zero.1 HZE.out).2.1; rw [List.length_map] at this; exact this
  have hxl : xs.length ≤ 1048576 * 32 := by
    have h1 := accM_len (rs.map (·.1)) l l.length 0
    rw [accM_all, List.length_map, ← hxs, List.length_map] at h1
    have h2 : l.length * rs.length ≤ 1048576 * 32 := Nat.mul_le_mul hll h32
    omega
  have hcnt := congrArg List.length HIN.out
  rw [List.length_map, ← hys, List.length_map] at hcnt
  have hyl : ys.length ≤ xs.length := by
    rw [← hcnt]
    refine Nat.le_trans (List.length_filter_le _ _) ?_
    rw [← hxs, List.length_map]
    exact Nat.le_refl _
  have HX1 := Lib.hid hxs
  have HY1 := Lib.hid hys
  have HCN := Lib.hid hcnt
  have hxa : (allM (rs.map (·.1)) l).length = xs.length := by rw [← hxs, List.length_map]
  have HXA := Lib.hid hxa
  clear hxs hys hcnt HXS HYS hxa
  generalize allM (rs.map (·.1)) l = A at *
  generalize allM (rs.map (·.1)) PP = C at *
  go_wp2_with fail
  go_loopw [12, 13] (fun kv nv wr => fwAt A j zz w4 kv nv wr) (fun _ nv _ => A.length - (intOf nv).toNat)
  case atStart => exact ⟨0, rfl, rfl, Nat.zero_le _, Below.refl _ _⟩
  case round =>
    obtain ⟨n, rfl, rfl, hnl, hb⟩ := hrel
    have HB := Lib.hid hb
    clear hb
    rw [HXA.out] at hnl ⊢
    by_cases hlt : n < xs.length
    · have hna : n < A.length := by rw [HXA.out]; exact hlt
      have hax : A[n] = (xs[n]).1 := by
        apply Option.some.inj
        rw [← List.getElem?_eq_getElem hna, ← HX1.out, List.getElem?_map, List.getElem?_eq_getElem hlt]; rfl
      have hab := HAB.out _ (List.getElem_mem hna)
      have hsn := cnt_snoc (inB j zz) hna
      have hfa := filt_at (inB j zz) hna
      rw [hax] at hab hsn hfa
      rw [HIN.out, List.getElem?_map] at hfa
      have HSN := Lib.hid hsn
      have HFA := Lib.hid hfa
      have haE := HMS4.out.E _ (List.getElem_mem hlt)
      obtain ⟨b, off, rfl, _, _, hcm⟩ := HMS4.out.at HB.out (show 0 < xs.length by omega)
      have HCA : RowKit.Hid (∀ W, Below w4.heap.size w4 W → W.cell? ⟨b, off + n * 3, none⟩ = some (.int .i64 ((xs[n]).1.1 : Int)) ∧ W.cell? ⟨b, off + n * 3 + 1, none⟩ = some (.int .i64 ((xs[n]).1.2.1 : Int)) ∧ W.cell? ⟨b, off + n * 3 + 2, none⟩ = some (xs[n]).2) := Lib.hid fun W hb => by
        obtain ⟨b', off', e, _, _, h⟩ := HMS4.out.at hb (show 0 < xs.length by omega)
        cases e
        exact h n hlt
      clear hcm hax hsn hfa
      generalize xs[n] = a at *
      obtain ⟨⟨ar1, ap1, ab1⟩, av⟩ := a
      simp only [] at haE hab HCA HSN HFA
      obtain ⟨aa, ac, rfl, hac⟩ := Row.shape haE
      have HAE := Lib.hid haE
      have hi0 : (0 : Int) ≤ (n : Int) := by omega
      have hil : (n : Int) < xs.length := by omega
      have hic : (n : Int) < vc := by omega
      obtain ⟨a0, a1, a2⟩ := HCA.out wr HB.out
      obtain ⟨hab1, hab2, hab3, hab4⟩ := hab
      have HA4 := Lib.hid hab4
      clear haE hab4
      by_cases hin : inB j zz (ar1, ap1, ab1) = true
      case neg =>
        have HX : RowKit.Hid (fwAt A j zz w4 (.int .i64 (cntM (inB j zz) (A.take n) : Int)) (.int .i64 ((n : Int) + 1)) wr) := Lib.hid
          ⟨n + 1, by push_cast; rfl, by rw [HSN.out, if_neg hin]; rfl, hna, HB.out⟩
        have hout : ap1 < j ∨ zz ≤ ap1 := by
          unfold inB at hin
          simp only [decide_eq_true_eq] at hin
          omega
        clear hin HSN HFA
        generalize cntM (inB j zz) (A.take n) = kk at *
        rcases hout with ho | ho
        · have g1 : (ap1 : Int) < (j : Int) := by omega
          go_wp2_with fail
          exact ⟨HX.out, by simp only [intOf]; omega⟩
        · have g1 : ¬ (ap1 : Int) < (j : Int) := by omega
          have g2 : (zz : Int) ≤ (ap1 : Int) := by omega
          go_wp2_with fail
          exact ⟨HX.out, by simp only [intOf]; omega⟩
      have hfa := HFA.out hin
      have HX : RowKit.Hid (∀ W, Below w4.heap.size w4 W → fwAt A j zz w4 (.int .i64 ((cntM (inB j zz) (A.take n) : Int) + 1)) (.int .i64 ((n : Int) + 1)) W) := Lib.hid fun W hb =>
        ⟨n + 1, by push_cast; rfl, by rw [HSN.out, if_pos hin]; push_cast; rfl, hna, hb⟩
      have hap : j ≤ ap1 ∧ ap1 < zz := by
        unfold inB at hin
        simpa only [decide_eq_true_eq] using hin
      clear hin HSN HFA
      generalize cntM (inB j zz) (A.take n) = kk at *
      have hkc : kk < C.length := by
        cases h : C[kk]? with
        | none => rw [h] at hfa; cases hfa
        | some x => exact (List.getElem?_eq_some_iff.1 h).1
      have hcy : C.length = ys.length := by rw [← HY1.out, List.length_map]
      have hky : kk < ys.length := by omega
      have hyx : C[kk] = (ys[kk]).1 := by
        apply Option.some.inj
        rw [← List.getElem?_eq_getElem hkc, ← HY1.out, List.getElem?_map, List.getElem?_eq_getElem hky]; rfl
      rw [List.getElem?_eq_getElem hkc, hyx] at hfa
      have hyb := HPB.out _ (List.getElem_mem hkc)
      rw [hyx] at hyb
      have hyE := HNS.out.E _ (List.getElem_mem hky)
      obtain ⟨yb, yo, rfl, _, _, hcm⟩ := HNS.out.at HB.out (show 0 < ys.length by omega)
      have HCY : RowKit.Hid (∀ W, Below w4.heap.size w4 W → W.cell? ⟨yb, yo + kk * 3, none⟩ = some (.int .i64 ((ys[kk]).1.1 : Int)) ∧ W.cell? ⟨yb, yo + kk * 3 + 1, none⟩ = some (.int .i64 ((ys[kk]).1.2.1 : Int)) ∧ W.cell? ⟨yb, yo + kk * 3 + 2, none⟩ = some (ys[kk]).2) := Lib.hid fun W hb => by
        obtain ⟨b', off', e, _, _, h⟩ := HNS.out.at hb (show 0 < ys.length by omega)
        cases e
        exact h kk hky
      clear hcm hyx hcy hkc
      generalize ys[kk] = y at *
      obtain ⟨⟨yr1, yp1, ybs⟩, yv⟩ := y
      simp only [Option.map_some, Option.some.injEq, shiftM, Prod.mk.injEq] at hyE hyb HCY hfa
      obtain ⟨rfl, rfl, rfl⟩ := hfa
      obtain ⟨yva, yvc, rfl, hyvc⟩ := Row.shape hyE
      rw [List.length_map] at hab3 hac a2 HCA
      obtain ⟨y0, y1, y2⟩ := HCY.out wr HB.out
      have HYE := Lib.hid hyE
      obtain ⟨_, hyb2, hyb3, hyb4⟩ := hyb
      have HY4 := Lib.hid hyb4
      have hk0 : (0 : Int) ≤ (kk : Int) := by omega
      have hkx : (kk : Int) < ys.length := by omega
      have hkd : (kk : Int) < vc2 := by omega
      have g1 : ((kk : Int) == (ys.length : Int)) = false := by rw [beq_eq_false_iff_ne]; omega
      have g2 : (kk == ys.length) = false := by rw [beq_eq_false_iff_ne]; omega
      have g3 : ¬ ((yp1 + j : Nat) : Int) < (j : Int) := by omega
      have g4 : ¬ (zz : Int) ≤ ((yp1 + j : Nat) : Int) := by omega
      have hw1 : IntKind.i64.wrap (((yp1 + j : Nat) : Int) - (j : Int)) = (yp1 : Int) := by rw [IntKind.wrap_i64]; omega
      clear hyE hyb4 hap
      go_upto_region 13 with (fail)
      go_quiet (fail)
      have hbq := drewB HB.out nq
      generalize wr.drewN nq = wq at *
      have HBQ := Lib.hid hbq
      clear hbq HB a0 a1 a2 y0 y1 y2
      obtain ⟨a0, a1, a2⟩ := HCA.out wq HBQ.out
      obtain ⟨y0, y1, y2⟩ := HCY.out wq HBQ.out
      go_wp2_with fail
      go_loopw [14] (fun hv wr => ∃ h : Nat, hv = .int .i64 (h : Int) ∧ h ≤ ybs.length ∧ Below w4.heap.size w4 wr) (fun hv _ => ybs.length - (intOf hv).toNat)
      case atStart => exact ⟨0, rfl, Nat.zero_le _, HBQ.out⟩
      case round =>
        obtain ⟨h, rfl, hh, hb⟩ := hrel
        have HBR := Lib.hid hb
        clear hb a0 a1 a2 y0 y1 y2
        obtain ⟨a0, a1, a2⟩ := HCA.out wr HBR.out
        obtain ⟨y0, y1, y2⟩ := HCY.out wr HBR.out
        by_cases hlt7 : h < ybs.length
        · obtain ⟨b1, o1, rfl, hx1, _, _, hc1⟩ := BindRow.at HAE.out HBR.out (show 0 < (ybs.map fun b => (b.1, b.2.1 + (j : Int), b.2.2 + (j : Int))).length by rw [List.length_map]; omega)
          obtain ⟨b2, o2, rfl, hx2, _, _, hc2⟩ := BindRow.at HYE.out HBR.out (show 0 < ybs.length by omega)
          obtain ⟨ca0, ca1, ca2⟩ := hc1 h (by rw [List.length_map]; exact hlt7)
          obtain ⟨cb0, cb1, cb2⟩ := hc2 h hlt7
          rw [List.getElem_map] at ca0 ca1 ca2
          obtain ⟨⟨f0, f1⟩, t0, t1⟩ := HY4.out _ (List.getElem_mem hlt7)
          clear hx1 hx2 hc1 hc2
          have HKB : RowKit.Hid (∀ W, Below w4.heap.size w4 W → W.cell? ⟨b2, o2 + h * 3, none⟩ = some (.string (ybs[h]).1) ∧ W.cell? ⟨b2, o2 + h * 3 + 1, none⟩ = some (.int .i64 (ybs[h]).2.1) ∧ W.cell? ⟨b2, o2 + h * 3 + 2, none⟩ = some (.int .i64 (ybs[h]).2.2)) := Lib.hid fun W hb => by
            obtain ⟨b', o', e, _, _, _, hc⟩ := BindRow.at HYE.out hb (show 0 < ybs.length by omega)
            cases e
            exact hc h hlt7
          generalize ybs[h] = bb at *
          obtain ⟨bn, bf, bt⟩ := bb
          simp only [] at ca0 ca1 ca2 cb0 cb1 cb2 f0 f1 t0 t1 HKB
          have hh0 : (0 : Int) ≤ (h : Int) := by omega
          have hhl : (h : Int) < ybs.length := by omega
          have hha : (h : Int) < ac := by omega
          have hhb : (h : Int) < yvc := by omega
          have hw2 : IntKind.i64.wrap (bf + (j : Int) - (j : Int)) = bf := by rw [IntKind.wrap_i64]; omega
          have hw3 : IntKind.i64.wrap (bt + (j : Int) - (j : Int)) = bt := by rw [IntKind.wrap_i64]; omega
          have hb6 : Below w4.heap.size w4 (wr.alloc (.cells #[.string bn, .int .i64 (bf + (j : Int)), .int .i64 (bt + (j : Int))] 39)) := HBR.out.alloc HBR.out.size _
          have HB6 := Lib.hid hb6
          have hx6 := heap_alloc_new wr (.cells #[.string bn, .int .i64 (bf + (j : Int)), .int .i64 (bt + (j : Int))] 39)
          have HX6 := Lib.hid hx6
          clear hb6 hx6
          go_upto_region 19 with (fail)
          clear ca0 ca1 ca2 cb0 cb1 cb2 a0 a1 a2 y0 y1 y2
          generalize wr.alloc (.cells #[.string bn, .int .i64 (bf + (j : Int)), .int .i64 (bt + (j : Int))] 39) = w6 at *
          generalize wr.heap.size = gx at *
          have x0 : w6.cell? ⟨gx, 0, none⟩ = some (.string bn) ∧ w6.cell? ⟨gx, 1, none⟩ = some (.int .i64 (bf + (j : Int))) ∧ w6.cell? ⟨gx, 2, none⟩ = some (.int .i64 (bt + (j : Int))) := by
            have := HX6.out
            simp [World.cell?, this]
          obtain ⟨x0, x1, x2⟩ := x0
          obtain ⟨cb0, cb1, cb2⟩ := HKB.out w6 HB6.out
          obtain ⟨y0, y1, y2⟩ := HCY.out w6 HB6.out
          go_quiet (fail)
          have HXX := Lib.hid (drewB HB6.out nq)
          go_wp2_with fail
          exact ⟨⟨h + 1, by push_cast; rfl, hlt7, HXX.out⟩, by simp only [intOf]; omega⟩
        · obtain rfl : h = ybs.length := by omega
          have HXX := Lib.hid (HX.out wr HBR.out)
          go_wp2_with fail
          exact ⟨HXX.out, by simp only [intOf]; omega⟩
    · obtain rfl : n = xs.length := by omega
      have hk : cntM (inB j zz) (A.take xs.length) = ys.length := by
        rw [List.take_of_length_le (by rw [HXA.out]; omega)]; exact HCN.out
      rw [hk]
      have HBZ := Lib.hid (bthen HB4.out HB.out)
      clear hk
      go_wp2_with fail
      refine (CF.out wr HBZ.out).mono ?_
      rintro e wZ ⟨rfl, hbZ⟩
      have HX := Lib.hid (HQ.out wZ (bthen HBZ.out hbZ))
      clear hbZ
      go_wp2_with fail
      exact HX.out
end Go.Proofs.YtbhicblkgjgenaaDoor
