/- The statement FindOrder, walked: the call returns true. -/
import Derived.Test.YtbhicblkgjgenaaDoorMapSM
import Derived.Test.YtbhicblkgjgenaaDoorAtPM
import Derived.Test.YtbhicblkgjgenaaDoorFix18M
import Derived.Test.YtbhicblkgjgenaaDoorFindHoldsWalkM
import Derived.Test.YtbhicblkgjgenaaDoorStillM
namespace Go.Proofs.YtbhicblkgjgenaaDoor
set_option linter.all false

def flipB (N : Nat) (a y : Mch) : Bool := decide ((a.1 : Int) = (N : Int) - 1 - (y.1 : Int) ∧ a.2 = y.2)
theorem allM_rule {rules : List RuleM} {l : List Prt} {m : Mch} (h : m ∈ allM rules l) : m.1 < rules.length := by
  obtain ⟨_, r, τ, hr, _⟩ := mem_allM.1 h
  exact (List.getElem?_eq_some_iff.1 hr).1
theorem order_one {rules : List RuleM} {l : List Prt} {a : Mch} (ha : a ∈ allM rules l) : cntM (flipB rules.length a) (allM rules.reverse l) = 1 := by
  have hn := allM_rule ha
  obtain ⟨n, i, b⟩ := a
  have hm := (allM_back hn).1 ha
  refine cnt_one (allM_apart rules.reverse l) hm ?_ ?_ ?_
  · unfold flipB
    simp only [decide_eq_true_eq, and_true]
    simp only [] at hn
    omega
  · intro y hy hq
    unfold flipB at hq
    simp only [decide_eq_true_eq] at hq
    obtain ⟨h1, h2⟩ := hq
    obtain ⟨y1, y2⟩ := y
    simp only [] at h1 h2
    subst h2
    have := allM_rule hy
    rw [List.length_reverse] at this
    simp only [] at this hn
    rw [show y1 = rules.length - 1 - n by omega]
  · intro y h
    rcases h with h | ⟨_, h⟩
    · omega
    · omega
theorem rev_range (N : Nat) : (List.range N).map (fun n => N - 1 - n) = (List.range N).reverse := by
  apply List.ext_getElem
  · simp
  · intro k h1 h2
    simp
theorem order_len (rules : List RuleM) (l : List Prt) : (allM rules l).length = (allM rules.reverse l).length := by
  unfold allM
  rw [List.length_flatMap, List.length_flatMap]
  congr 1
  apply List.map_congr_left
  intro i _
  unfold atM
  rw [List.length_flatMap, List.length_flatMap, List.length_reverse]
  have e : (List.range rules.length).map (fun n => (oneM rules.reverse l i n).length) = ((List.range rules.length).map (fun n => (oneM rules l i n).length)).reverse := by
    rw [← List.map_reverse, ← rev_range, List.map_map]
    apply List.map_congr_left
    intro n hn
    rw [List.mem_range] at hn
    simp only [Function.comp]
    unfold oneM
    rw [List.getElem?_reverse hn]
    cases rules[rules.length - 1 - n]? with
    | none => rfl
    | some r =>
      simp only []
      cases atZ r l i <;> rfl
  rw [e, List.sum_reverse]
theorem cnt_snoc {α : Type} (q : α → Bool) {l : List α} {k : Nat} (hk : k < l.length) : cntM q (l.take (k + 1)) = cntM q (l.take k) + if q l[k] = true then 1 else 0 := by
  unfold cntM
  rw [take_snoc hk, List.filter_append, List.length_append]
  congr 1
  by_cases h : q l[k] = true
  · rw [if_pos h]; simp [h]
  · rw [if_neg h]; simp [h]
theorem cnt_le {α : Type} (q : α → Bool) (l : List α) : cntM q l ≤ l.length := List.length_filter_le _ _
end Go.Proofs.YtbhicblkgjgenaaDoor
namespace Go.Proofs.YtbhicblkgjgenaaDoor
set_option linter.all false
attribute [local irreducible] Calls
attribute [local irreducible] wpStill
open Go.RowKit

theorem Minfo_rule : (Tryd.prog.info? 25).map (fun i => (i.zero, i.size, i.bytes)) = some (some (.agg #[.string ⟨#[]⟩, .int .u8 0, .slice none 0 0, .slice none 0 0, .slice none 0 0]), 5, 96) := by kernel_rfl
def foBack (rs : List RuleX) (B0 : Nat) (w0 : World) (v nv : Value) (wr : World) : Prop :=
  ∃ k : Nat, nv = .int .i64 ((rs.length : Int) - 1 - (k : Int)) ∧ k ≤ rs.length ∧ wr.ownsRow B0 25 5 v k ((rs.reverse.take k).flatMap ruleV) ∧ Below w0.heap.size w0 wr
def foIn (rules : List RuleM) (l : List Prt) (a : Mch) (w0 : World) (sv kv : Value) (wr : World) : Prop :=
  ∃ k : Nat, kv = .int .i64 (k : Int) ∧ sv = .int .i64 (cntM (flipB rules.length a) ((allM rules.reverse l).take k) : Int) ∧ k ≤ (allM rules.reverse l).length ∧ Below w0.heap.size w0 wr
set_option maxRecDepth 100000 in
set_option maxHeartbeats 16000000 in
theorem FindOrder_walk (w : World) (vr : Value) (rs : List RuleX) (hr : RulesIn w vr rs) (hs : ∀ x ∈ rs, SmallR x.1) (hn : rs.length ≤ 1048576) (vl : Value) (l : List Prt) (hlr : PartRow w vl l) (hl : SmallL l) (hH : HeldM w) :
    Calls Tryd.prog 5 #[vr, vl] w (AnswersM w) := by
  have HQ : RowKit.Hid (∀ w', Below w.heap.size w w' → AnswersM w (.returned (.bool true)) w') := Lib.hid fun w' h => AnswersM.mk h
  generalize AnswersM w = Q at *
  have CF := Lib.hid (fun w' (hb : Below w.heap.size w w') => law18_fixed w' (hH.T.below hb) (hH.M.below hb))
  have CG := Lib.hid (law18_great rs hs hn vr l hl.1 vl 20000 w hr hlr)
  have CA := Lib.hid (fun w' (hb : Below w.heap.size w w') => all_flat rs hs l hl vr vl w' (hH.T.below hb) (hH.M.below hb) (hr.below hb) (hlr.below hb))
  have CB := Lib.hid (fun v w' (hb : Below w.heap.size w w') (hv : RulesIn w' v rs.reverse) => all_flat rs.reverse (fun x hx => hs x (List.mem_reverse.1 hx)) l hl v vl w' (hH.T.below hb) (hH.M.below hb) hv (hlr.below hb))
  obtain ⟨ar, cr, rfl, hcr⟩ := hr.shape
  obtain ⟨al, cl, rfl, hcl⟩ := hlr.slice
  have HR := Lib.hid hr
  have HLR := Lib.hid hlr
  have HS := Lib.hid hs
  have HL := Lib.hid hl
  have hll := hl.1
  clear hr hlr hs hl hH
  go_enter Tryd.func5, Tryd.ntmps5
  go_wp2_with fail
  refine CG.out.mono ?_
  intro e w1 h1
  obtain ⟨y, rfl, hb1⟩ := h1.out
  have HB1 := Lib.hid hb1
  clear h1 hb1 CG
  cases y with
  | true =>
    go_wp2_with fail
    refine (CF.out w1 HB1.out).mono ?_
    rintro e wZ ⟨rfl, hbZ⟩
    have HX := Lib.hid (HQ.out wZ (bthen HB1.out hbZ))
    clear hbZ
    go_wp2_with fail
    exact HX.out
  | false =>
  go_wp2_with fail
  refine (CA.out w1 HB1.out).mono ?_
  rintro e w2 ⟨va, vc, xs, rfl, hvc, hxs, hms, hb2, _, _⟩
  have HB2 := Lib.hid (bthen HB1.out hb2)
  have HMS := Lib.hid hms
  have HXS := Lib.hid hxs
  clear hb2 hms CA HB1 hxs
  generalize hze : findErr (rs.map (·.1)) l = ze at *
  have HZE := Lib.hid hze
  clear hze
  have hwn : IntKind.i64.wrap ((rs.length : Int) - 1) = (rs.length : Int) - 1 := by rw [IntKind.wrap_i64]; omega
  go_wp2_with fail
  go_loopw [7, 8] (fun v nv wr => foBack rs w2.heap.size w2 v nv wr) (fun _ nv _ => (intOf nv + 1).toNat)
  case atStart => exact ⟨0, by simp, Nat.zero_le _, World.ownsRow_nil _ _ _ _, Below.refl _ _⟩
  case round =>
    obtain ⟨k, rfl, hk, ho, hb⟩ := hrel
    have HB := Lib.hid hb
    have HO := Lib.hid ho
    obtain ⟨ra, rn, rc, rfl⟩ := owns_slice ho
    clear hb ho
    by_cases hlt : k < rs.length
    · obtain ⟨j, hj⟩ : ∃ j, j = rs.length - 1 - k := ⟨_, rfl⟩
      have hjl : j < rs.length := by omega
      have hji : (rs.length : Int) - 1 - (k : Int) = (j : Int) := by omega
      rw [hji]
      have htk : rs.reverse.take (k + 1) = rs.reverse.take k ++ [rs[j]] := by
        rw [take_snoc (by simpa using hlt), List.getElem_reverse]
        congr 2; simp only [hj]
      obtain ⟨rb, ro, rfl, _, _, hrl, hcell⟩ := HR.out.at (bthen HB2.out HB.out) (show 0 < rs.length by omega)
      obtain ⟨d0, d1, d2, d3, d4⟩ := hcell j hjl
      have hin := HR.out.E _ (List.getElem_mem hjl)
      have HTK : RowKit.Hid ((rs.reverse.take (k + 1)).flatMap ruleV = (rs.reverse.take k).flatMap ruleV ++ ruleV rs[j]) := Lib.hid (by rw [htk]; simp)
      generalize rs[j] = x at *
      obtain ⟨r, vh, vf, vb⟩ := x
      simp only [] at d0 d1 d2 d3 d4 hin
      obtain ⟨ah, ch, rfl, hch⟩ := Row.shape hin.H
      obtain ⟨af, cf, rfl, hcf⟩ := hin.F.slice
      obtain ⟨ab, cb, rfl, hcb⟩ := hin.B.slice
      have hj0 : (0 : Int) ≤ (j : Int) := by omega
      have hjr : (j : Int) < rs.length := by omega
      have hjc : (j : Int) < cr := by omega
      have hwj : IntKind.i64.wrap ((j : Int) - 1) = (j : Int) - 1 := by rw [IntKind.wrap_i64]; omega
      have HJ := Lib.hid hj
      have hbs := HB.out.size
      clear hcell hin htk hj hji
      go_wp2_with (at_builtin; refine wpList_append_lit wr #[.string r.nm, .int .u8 (r.goal : Int), .slice ah r.holes.length ch, .slice af r.fnd.length cf, .slice ab r.by'.length cb] _ rfl _ _ 28 25 rfl Tryd.underlying28 w2.heap.size Minfo_rule rfl (by decide) _ _ _ rfl HO.out 1 1 rfl rfl (by decide) (by intro u hu; simp at hu; rcases hu with rfl | rfl | rfl | rfl | rfl <;> rfl) (by omega) (by omega) hbs ?_; intro v2 w3 hown hgr _)
      have HX : RowKit.Hid (foBack rs w2.heap.size w2 v2 (.int .i64 ((j : Int) - 1)) w3) := Lib.hid ⟨k + 1, by have := HJ.out; congr 1; push_cast; omega, hlt, by rw [HTK.out]; exact hown, (HB.out.alloc HB.out.size _).grown hgr (by have := HB.out.size; simp; omega) (fun q e => (HO.out.lt q e).1)⟩
      clear hown hgr
      go_wp2_with fail
      exact ⟨HX.out, by simp only [intOf]; omega⟩
    · obtain rfl : k = rs.length := by omega
      rw [show (rs.length : Int) - 1 - (rs.length : Int) = -1 by omega]
      have hrr : RulesIn wr (.slice ra rn rc) rs.reverse := by
        have h1 := Row.of_owns HO.out
        rw [List.take_of_length_le (by simp)] at h1
        exact ⟨by rw [List.length_reverse]; exact h1, fun x hx => (HR.out.E x (List.mem_reverse.1 hx)).below (bthen HB2.out HB.out)⟩
      have CB2 := Lib.hid (CB.out _ wr (bthen HB2.out HB.out) hrr)
      clear CB hrr
      go_wp2_with fail
      refine CB2.out.mono ?_
      rintro e w4 ⟨va2, vc2, ys, rfl, hvc2, hys, hms, hb4, _, _⟩
      have HB4 := Lib.hid (bthen (bthen HB2.out HB.out) hb4)
      have HMS4 := Lib.hid (HMS.out.below (bthen HB.out hb4))
      have HNS := Lib.hid hms
      rw [List.map_reverse] at hys ⊢
      have HYS := Lib.hid hys
      clear hb4 hms hys CB2 HB HMS HB2 HO
      have hback := findErr_back (rs.map (·.1)) l
      rw [HZE.out] at hback
      generalize hzf : findErr (rs.map (·.1)).reverse l = zf at *
      have HZF := Lib.hid hzf
      clear hzf
      by_cases hz : ze = 0
      case neg =>
        have g1 : (ze != 0) = true := by rw [bne_iff_ne]; exact hz
        have g2 : (ze == 0) = false := by rw [beq_eq_false_iff_ne]; exact hz
        have g3 : (zf == 0) = false := by rw [beq_eq_false_iff_ne]; exact fun h => hz (hback.2 h)
        have g4 : (zf != 0) = true := by rw [bne_iff_ne]; exact fun h => hz (hback.2 h)
        clear hz hback
        go_wp2_with fail
        refine (CF.out w4 HB4.out).mono ?_
        rintro e wZ ⟨rfl, hbZ⟩
        have HX := Lib.hid (HQ.out wZ (bthen HB4.out hbZ))
        clear hbZ
        go_wp2_with fail
        exact HX.out
      obtain rfl := hback.1 hz
      subst hz
      clear hback
      have hxs := HXS.out
      have hys := HYS.out
      rw [if_pos rfl] at hxs hys
      have h32 : rs.length ≤ 32 := by have := (findErr_zero.1 HZE.out).2.1; rw [List.length_map] at this; exact this
      have hll2 : xs.length = (allM (rs.map (·.1)) l).length := by rw [← hxs, List.length_map]
      have hll3 : ys.length = xs.length := by rw [hll2, order_len, ← hys, List.length_map]
      have hxl : xs.length ≤ 1048576 * 32 := by
        have h1 := accM_len (rs.map (·.1)) l l.length 0
        rw [accM_all, List.length_map] at h1
        have h2 : l.length * rs.length ≤ 1048576 * 32 := Nat.mul_le_mul hll h32
        omega
      have HX1 := Lib.hid hxs
      have HY1 := Lib.hid hys
      have HL3 := Lib.hid hll3
      have HNS2 : RowKit.Hid (MchsIn w4 (.slice va2 xs.length vc2) ys) := Lib.hid (by rw [← hll3]; exact HNS.out)
      rw [hll3] at hvc2 ⊢
      clear hxs hys hll2 hll3 HXS HYS HNS
      go_wp2_with fail
      go_loopw [11] (fun iv wr => ∃ i : Nat, iv = .int .i64 (i : Int) ∧ i ≤ xs.length ∧ Below w4.heap.size w4 wr) (fun iv _ => xs.length - (intOf iv).toNat)
      case atStart => exact ⟨0, rfl, Nat.zero_le _, Below.refl _ _⟩
      case round =>
        obtain ⟨i, rfl, hi, hb⟩ := hrel
        have HB := Lib.hid hb
        clear hb
        by_cases hlt5 : i < xs.length
        · have ham : (xs[i]).1 ∈ allM (rs.map (·.1)) l := by rw [← HX1.out]; exact List.mem_map_of_mem (List.getElem_mem hlt5)
          have hone := order_one ham
          rw [List.length_map] at hone
          have HONE := Lib.hid hone
          have haE := HMS4.out.E _ (List.getElem_mem hlt5)
          have hab := allM_small (fun r hr => by obtain ⟨x, hx, rfl⟩ := List.mem_map.1 hr; exact (HS.out x hx).h.1) hll _ ham
          obtain ⟨b, off, rfl, _, _, hcm⟩ := HMS4.out.at HB.out (show 0 < xs.length by omega)
          have HCA : RowKit.Hid (∀ W, Below w4.heap.size w4 W → W.cell? ⟨b, off + i * 3, none⟩ = some (.int .i64 ((xs[i]).1.1 : Int)) ∧ W.cell? ⟨b, off + i * 3 + 1, none⟩ = some (.int .i64 ((xs[i]).1.2.1 : Int)) ∧ W.cell? ⟨b, off + i * 3 + 2, none⟩ = some (xs[i]).2) := Lib.hid fun W hb => by
            obtain ⟨b', off', e, _, _, h⟩ := HMS4.out.at hb (show 0 < xs.length by omega)
            cases e
            exact h i hlt5
          clear hcm hone ham
          generalize xs[i] = a at *
          obtain ⟨⟨ar1, ap1, ab1⟩, av⟩ := a
          simp only [] at haE hab HCA HONE
          obtain ⟨aa, ac, rfl, hac⟩ := Row.shape haE
          have HAE := Lib.hid haE
          have hi0 : (0 : Int) ≤ (i : Int) := by omega
          have hil : (i : Int) < xs.length := by omega
          have hic : (i : Int) < vc := by omega
          have HL4 : RowKit.Hid ((allM (rs.map (·.1)).reverse l).length = xs.length) := Lib.hid (by rw [← HL3.out, ← HY1.out, List.length_map])
          clear haE
          go_wp2_with fail
          go_loopw [12, 13] (fun sv kv wr => foIn (rs.map (·.1)) l (ar1, ap1, ab1) w4 sv kv wr) (fun _ kv _ => xs.length - (intOf kv).toNat)
          case atStart => exact ⟨0, rfl, rfl, Nat.zero_le _, HB.out⟩
          case round =>
            obtain ⟨k, rfl, rfl, hk, hb⟩ := hrel
            have HBK := Lib.hid hb
            clear hb
            rw [HL4.out] at hk
            rw [List.length_map]
            have hcnt := cnt_le (flipB rs.length (ar1, ap1, ab1)) ((allM (rs.map (·.1)).reverse l).take k)
            rw [List.length_take] at hcnt
            by_cases hlt6 : k < xs.length
            · have hky : k < ys.length := by rw [HL3.out]; exact hlt6
              have hkm : k < (allM (rs.map (·.1)).reverse l).length := by rw [HL4.out]; exact hlt6
              have hym : (allM (rs.map (·.1)).reverse l)[k] = (ys[k]).1 := by
                apply Option.some.inj
                rw [← List.getElem?_eq_getElem hkm, ← HY1.out, List.getElem?_map, List.getElem?_eq_getElem hky]; rfl
              have hyin : (ys[k]).1 ∈ allM (rs.map (·.1)).reverse l := by rw [← hym]; exact List.getElem_mem hkm
              have hy1 := allM_rule hyin
              rw [List.length_reverse, List.length_map] at hy1
              have hyb := allM_small (fun r hr => by rw [List.mem_reverse] at hr; obtain ⟨x, hx, rfl⟩ := List.mem_map.1 hr; exact (HS.out x hx).h.1) hll _ hyin
              have hsn := cnt_snoc (flipB rs.length (ar1, ap1, ab1)) hkm
              rw [hym] at hsn
              have HSN := Lib.hid hsn
              have hyE := HNS2.out.E _ (List.getElem_mem hky)
              obtain ⟨yb, yo, rfl, _, _, hcy⟩ := HNS2.out.at HBK.out (show 0 < ys.length by omega)
              obtain ⟨c0, c1, c2⟩ := hcy k hky
              clear hcy hym hyin hsn
              generalize ys[k] = yy at *
              obtain ⟨⟨y1, y2, ybs⟩, yv⟩ := yy
              simp only [] at c0 c1 c2 hyE hy1 hyb HSN
              obtain ⟨yva, yvc, rfl, hyvc⟩ := Row.shape hyE
              have hk0 : (0 : Int) ≤ (k : Int) := by omega
              have hkl : (k : Int) < xs.length := by omega
              have hkc : (k : Int) < vc2 := by omega
              have hw3 : IntKind.i64.wrap ((rs.length : Int) - 1 - (y1 : Int)) = (rs.length : Int) - 1 - (y1 : Int) := by rw [IntKind.wrap_i64]; omega
              have hb6 : Below w4.heap.size w4 (wr.alloc (.cells #[.int .i64 ((rs.length : Int) - 1 - (y1 : Int)), .int .i64 (y2 : Int), .slice yva ybs.length yvc] 48)) := HBK.out.alloc HBK.out.size _
              have HB6 := Lib.hid hb6
              have hx6 := heap_alloc_new wr (.cells #[.int .i64 ((rs.length : Int) - 1 - (y1 : Int)), .int .i64 (y2 : Int), .slice yva ybs.length yvc] 48)
              have HX6 := Lib.hid hx6
              clear hb6 hx6
              go_upto_region 23 with (fail)
              clear c0 c1 c2
              generalize wr.alloc (.cells #[.int .i64 ((rs.length : Int) - 1 - (y1 : Int)), .int .i64 (y2 : Int), .slice yva ybs.length yvc] 48) = w6 at *
              generalize wr.heap.size = gx at *
              have x0 : w6.cell? ⟨gx, 0, none⟩ = some (.int .i64 ((rs.length : Int) - 1 - (y1 : Int))) ∧ w6.cell? ⟨gx, 1, none⟩ = some (.int .i64 (y2 : Int)) ∧ w6.cell? ⟨gx, 2, none⟩ = some (.slice yva ybs.length yvc) := by
                have := HX6.out
                simp [World.cell?, this]
              obtain ⟨x0, x1, x2⟩ := x0
              obtain ⟨a0, a1, a2⟩ := HCA.out w6 HB6.out
              have hbd : Below w4.heap.size w4 w6.drew := HB6.out.drew
              have HBD := Lib.hid hbd
              have CS := Lib.hid (ref_SameMatch ((ar1 : Int), (ap1 : Int), ab1) ((rs.length : Int) - 1 - (y1 : Int), (y2 : Int), ybs) hab hyb _ _ w6.drew (HAE.out.below hbd) (hyE.below hbd))
              simp only [] at CS
              clear hyE hbd HX6
              go_still_tail 5, (by kernel_rfl)
              go_wp2_with fail
              refine CS.out.mono ?_
              rintro e w7 ⟨z, rfl, ht, hb7⟩
              have HB7 := Lib.hid (bthen HBD.out hb7)
              have hz : z = flipB rs.length (ar1, ap1, ab1) (y1, y2, ybs) := by
                unfold TellsM at ht
                rw [Bool.eq_iff_iff, ht]
                unfold flipB
                simp only [decide_eq_true_eq, Prod.mk.injEq, Int.natCast_inj]
              subst hz
              have HXK : RowKit.Hid (∀ c : Int, c = (cntM (flipB rs.length (ar1, ap1, ab1)) ((allM (rs.map (·.1)).reverse l).take (k + 1)) : Int) → foIn (rs.map (·.1)) l (ar1, ap1, ab1) w4 (.int .i64 c) (.int .i64 ((k : Int) + 1)) w7) := Lib.hid fun c hc =>
                ⟨k + 1, by push_cast; rfl, by rw [List.length_map, hc], by rw [HL4.out]; exact hlt6, HB7.out⟩
              have HSZ2 := Lib.hid (show cntM (flipB rs.length (ar1, ap1, ab1)) ((allM (rs.map (·.1)).reverse l).take k) ≤ xs.length by omega)
              clear ht hb7 CS x0 x1 x2 a0 a1 a2 hcnt
              cases hfb : flipB rs.length (ar1, ap1, ab1) (y1, y2, ybs) with
              | true =>
                have HX8 := Lib.hid (HXK.out ((cntM (flipB rs.length (ar1, ap1, ab1)) ((allM (rs.map (·.1)).reverse l).take k) : Int) + 1) (by rw [HSN.out, hfb, if_pos rfl]; push_cast; rfl))
                have hsz := HSZ2.out
                clear hfb HSN HXK
                generalize cntM (flipB rs.length (ar1, ap1, ab1)) ((allM (rs.map (·.1)).reverse l).take k) = cc at *
                go_wp2_with fail
                exact ⟨HX8.out, by simp only [intOf]; omega⟩
              | false =>
                have HX8 := Lib.hid (HXK.out (cntM (flipB rs.length (ar1, ap1, ab1)) ((allM (rs.map (·.1)).reverse l).take k) : Int) (by rw [HSN.out, hfb, if_neg (by simp)]; rfl))
                have hsz := HSZ2.out
                clear hfb HSN HXK
                generalize cntM (flipB rs.length (ar1, ap1, ab1)) ((allM (rs.map (·.1)).reverse l).take k) = cc at *
                go_wp2_with fail
                exact ⟨HX8.out, by simp only [intOf]; omega⟩
            · obtain rfl : k = xs.length := by omega
              rw [List.take_of_length_le (by rw [HL4.out]; omega), HONE.out]
              have HXX : RowKit.Hid (∃ i' : Nat, (Value.int .i64 ((i : Int) + 1)) = .int .i64 (i' : Int) ∧ i' ≤ xs.length ∧ Below w4.heap.size w4 wr) := Lib.hid ⟨i + 1, by push_cast; rfl, hlt5, HBK.out⟩
              go_wp2_with fail
              exact ⟨HXX.out, by simp only [intOf]; omega⟩
        · obtain rfl : i = xs.length := by omega
          have HBZ := Lib.hid (bthen HB4.out HB.out)
          go_wp2_with fail
          refine (CF.out wr HBZ.out).mono ?_
          rintro e wZ ⟨rfl, hbZ⟩
          have HX := Lib.hid (HQ.out wZ (bthen HBZ.out hbZ))
          clear hbZ
          go_wp2_with fail
          exact HX.out
end Go.Proofs.YtbhicblkgjgenaaDoor
