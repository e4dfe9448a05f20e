/- The statement FindAdded, walked: the call returns true. -/
import Derived.Test.YtbhicblkgjgenaaDoorAppEqM
import Derived.Test.YtbhicblkgjgenaaDoorEachSM
import Derived.Test.YtbhicblkgjgenaaDoorFix18M
import Derived.Test.YtbhicblkgjgenaaDoorFindHoldsWalkM
import Derived.Test.YtbhicblkgjgenaaDoorStillM
import Derived.Test.YtbhicblkgjgenaaDoorOpenPartsM
import Derived.Deep.RegionHeld3
namespace Go.Proofs.YtbhicblkgjgenaaDoor
set_option linter.all false
open Go.RowKit

theorem err_added {rules : List RuleM} {m : RuleM} {l : List Prt} (h : rules.length + 1 ≤ 32) : (findErr rules l ≠ 0 → findErr (rules ++ [m]) l = findErr rules l) ∧ (findErr rules l = 0 → findErr (rules ++ [m]) l = ruleZ m) := by
  have h1 : ¬ 32 < (rules ++ [m]).length := by simp; omega
  have h2 : ¬ 32 < rules.length := by omega
  unfold findErr
  rw [if_neg h1, if_neg h2, firstErr_app]
  by_cases hw : wellB l = false
  · rw [if_pos hw, if_pos hw]
    exact ⟨fun _ => rfl, fun h => by cases h⟩
  · rw [if_neg hw, if_neg hw]
    have h3 : firstErr [m] = ruleZ m := by
      unfold firstErr
      by_cases hz : ruleZ m = 0
      · rw [if_pos hz, hz]; rfl
      · rw [if_neg hz]
    exact ⟨fun h => by rw [if_neg h], fun h => by rw [if_pos h, h3]⟩
theorem RMinfo_rule : (Tryd.prog.info? 25).map (fun i => (i.zero, i.size, i.bytes)) = some (some (.agg #[.string ⟨#[]⟩, .int .u8 0, .slice none 0 0, .slice none 0 0, .slice none 0 0]), 5, 96) := by kernel_rfl
/-- What the two appends leave. -/
def AddRow (B : Nat) (w0 : World) (xs : List Value) (n : Nat) (v : Value) (w' : World) : Prop := w'.ownsRow B 25 5 v n xs ∧ Below B w0 w'
theorem add_row {B : Nat} {w0 W : World} {v src : Value} {n m : Nat} {xs news : List Value} (hb : Below B w0 W) (hB : B ≤ W.heap.size) (hown : W.ownsRow B 25 5 v n xs) (hrow : Row W src m 5 news) (h1 : ∀ u ∈ news, u.oneCell' = true) (hn : n + m ≤ 1048576) :
    ∃ v' w', (Builtin.append_ #[28, 28] 28 #[v, src]).run Tryd.prog W = .ok v' w' ∧ AddRow B w0 (xs ++ news) (n + m) v' w' ∧ B ≤ w'.heap.size ∧ (∀ k, k < W.heap.size → some k ≠ v.ownBlock → w'.heap[k]? = W.heap[k]?) := by
  obtain ⟨v', w', g1, g2, g3, g4⟩ := append_eq (P := Tryd.prog) W 28 28 25 Tryd.underlying28 B RMinfo_rule rfl (by decide) v n xs hown src m news hrow h1 (by omega) (by omega) hB
  exact ⟨v', w', g1, ⟨g2, grown_keeps hb hB hown g3⟩, Nat.le_trans hB g3.size, g3.block⟩
theorem lit_rrow {W : World} {k : Nat} {C : Array Value} (hC : C.size = 5) (h : W.heap[k]? = some (.cells C 25 (0, 0))) : Row W (.slice (some ⟨k, 0, none⟩) 1 1) 1 5 C.toList :=
  ⟨by simpa using hC, some ⟨k, 0, none⟩, 1, rfl, Nat.le_refl _, by simp, fun _ => ⟨k, 0, rfl, keeps_lt h, fun i hi => by simp [World.cell?, h]⟩⟩
/-- The two appends, in each of the orders in which the two literals may be made. -/
theorem add_rows (w : World) {src : Value} {n : Nat} {xs : List Value} (hrow : Row w src n 5 xs) (hx : ∀ u ∈ xs, u.oneCell' = true) (hn : n + 1 ≤ 1048576) (C : Array Value) (hC : C.size = 5) (hc : ∀ u ∈ C.toList, u.oneCell' = true) (E : TypeId) (hE : E = 25) :
    (∃ v1 w1, (Builtin.append_ #[28, 28] 28 #[.slice (some ⟨w.heap.size, 0, none⟩) 0 0, src]).run Tryd.prog (w.alloc (.cells #[] E)) = .ok v1 w1 ∧ Below w.heap.size w w1 ∧
      (∃ v2 w2, (Builtin.append_ #[28, 28] 28 #[v1, .slice (some ⟨w1.heap.size, 0, none⟩) 1 1]).run Tryd.prog (w1.alloc (.cells C E)) = .ok v2 w2 ∧ AddRow w.heap.size w (xs ++ C.toList) (n + 1) v2 w2)) ∧
    (∃ v1 w1, (Builtin.append_ #[28, 28] 28 #[.slice (some ⟨w.heap.size, 0, none⟩) 0 0, src]).run Tryd.prog ((w.alloc (.cells #[] E)).alloc (.cells C E)) = .ok v1 w1 ∧ Below w.heap.size w w1 ∧
      (∃ v2 w2, (Builtin.append_ #[28, 28] 28 #[v1, .slice (some ⟨w.heap.size + 1, 0, none⟩) 1 1]).run Tryd.prog w1 = .ok v2 w2 ∧ AddRow w.heap.size w (xs ++ C.toList) (n + 1) v2 w2)) ∧
    (∃ v1 w1, (Builtin.append_ #[28, 28] 28 #[.slice (some ⟨w.heap.size + 1, 0, none⟩) 0 0, src]).run Tryd.prog ((w.alloc (.cells C E)).alloc (.cells #[] E)) = .ok v1 w1 ∧ Below w.heap.size w w1 ∧
      (∃ v2 w2, (Builtin.append_ #[28, 28] 28 #[v1, .slice (some ⟨w.heap.size, 0, none⟩) 1 1]).run Tryd.prog w1 = .ok v2 w2 ∧ AddRow w.heap.size w (xs ++ C.toList) (n + 1) v2 w2)) := by
  subst hE
  refine ⟨?_, ?_, ?_⟩
  · have hb1 : Below w.heap.size w (w.alloc (.cells #[] 25)) := (Below.refl _ _).alloc (Nat.le_refl _) _
    obtain ⟨v1, w1, r1, ⟨o1, b1⟩, z1, _⟩ := add_row hb1 hb1.size (owns_empty w w.heap.size 25 5 (Nat.le_refl _)) (Row.below hrow hb1) hx (by omega)
    refine ⟨v1, w1, r1, b1, ?_⟩
    have hb2 : Below w.heap.size w (w1.alloc (.cells C 25)) := b1.alloc z1 _
    obtain ⟨v2, w2, r2, g2, _⟩ := add_row hb2 hb2.size (o1.alloc _) (lit_rrow hC (heap_alloc_new w1 (.cells C 25))) hc (by omega)
    rw [List.nil_append, Nat.zero_add] at g2
    exact ⟨v2, w2, r2, g2⟩
  · have hb1 : Below w.heap.size w ((w.alloc (.cells #[] 25)).alloc (.cells C 25)) := ((Below.refl _ _).alloc (Nat.le_refl _) _).alloc (by simp) _
    obtain ⟨v1, w1, r1, ⟨o1, b1⟩, z1, k1⟩ := add_row hb1 hb1.size ((owns_empty w w.heap.size 25 5 (Nat.le_refl _)).alloc _) (Row.below hrow hb1) hx (by omega)
    refine ⟨v1, w1, r1, b1, ?_⟩
    have hl : w1.heap[w.heap.size + 1]? = some (.cells C 25 (0, 0)) := by
      have h1 := heap_alloc_new (w.alloc (.cells #[] 25)) (.cells C 25)
      rw [World.size_alloc] at h1
      rw [k1 _ (by simp) (by simp [Value.ownBlock])]
      exact h1
    obtain ⟨v2, w2, r2, g2, _⟩ := add_row b1 z1 o1 (lit_rrow hC hl) hc (by omega)
    rw [List.nil_append, Nat.zero_add] at g2
    exact ⟨v2, w2, r2, g2⟩
  · have hb1 : Below w.heap.size w ((w.alloc (.cells C 25)).alloc (.cells #[] 25)) := ((Below.refl _ _).alloc (Nat.le_refl _) _).alloc (by simp) _
    have ho := owns_empty (w.alloc (.cells C 25)) w.heap.size 25 5 (by simp)
    rw [World.size_alloc] at ho
    obtain ⟨v1, w1, r1, ⟨o1, b1⟩, z1, k1⟩ := add_row hb1 hb1.size ho (Row.below hrow hb1) hx (by omega)
    refine ⟨v1, w1, r1, b1, ?_⟩
    have hl : w1.heap[w.heap.size]? = some (.cells C 25 (0, 0)) := by
      rw [k1 _ (by simp; omega) (by simp [Value.ownBlock])]
      exact keeps ((Below.refl _ _).alloc (Nat.le_refl _) _) (heap_alloc_new w (.cells C 25))
    obtain ⟨v2, w2, r2, g2, _⟩ := add_row b1 z1 o1 (lit_rrow hC hl) hc (by omega)
    rw [List.nil_append, Nat.zero_add] at g2
    exact ⟨v2, w2, r2, g2⟩
end Go.Proofs.YtbhicblkgjgenaaDoor
namespace Go.Proofs.YtbhicblkgjgenaaDoor
set_option linter.all false
attribute [local irreducible] Calls
attribute [local irreducible] wpStill
open Go.RowKit

def faKeep (n : Nat) (ys : List MchX) (B0 : Nat) (w0 : World) (v iv : Value) (wr : World) : Prop :=
  ∃ i : Nat, iv = .int .i64 (i : Int) ∧ i ≤ ys.length ∧ wr.ownsRow B0 48 3 v ((ys.take i).filter fun x => decide (x.1.1 < n)).length (mchsV ((ys.take i).filter fun x => decide (x.1.1 < n))) ∧ Below w0.heap.size w0 wr
theorem rulesV_one (rs : List RuleX) (h : ∀ x ∈ rs, ∃ (r : RuleM) (a b c : Option Addr) (n1 n2 n3 c1 c2 c3 : Nat), x = (r, .slice a n1 c1, .slice b n2 c2, .slice c n3 c3)) : ∀ u ∈ rs.flatMap ruleV, u.oneCell' = true := by
  intro u hu
  obtain ⟨x, hx, hu⟩ := List.mem_flatMap.1 hu
  obtain ⟨r, a, b, c, n1, n2, n3, c1, c2, c3, rfl⟩ := h x hx
  simp [ruleV] at hu
  rcases hu with rfl | rfl | rfl | rfl | rfl <;> rfl
set_option maxRecDepth 100000 in
set_option maxHeartbeats 16000000 in
theorem FindAdded_walk (w : World) (vr : Value) (rs : List RuleX) (hr : RulesIn w vr rs) (hs : ∀ x ∈ rs, SmallR x.1) (hn : rs.length + 1 ≤ 1048576) (x : RuleX) (hin : RuleIn w x.1 x.2.1 x.2.2.1 x.2.2.2) (hsx : SmallR x.1) (vl : Value) (l : List Prt) (hlr : PartRow w vl l) (hl : SmallL l) (hH : HeldM w) :
    Calls Tryd.prog 7 #[vr, ruleAgg x.1 x.2.1 x.2.2.1 x.2.2.2, vl] w (AnswersM w) := by
  have HQ : RowKit.Hid (∀ w', Below w.heap.size w w' → AnswersM w (.returned (.bool true)) w') := Lib.hid fun w' h => AnswersM.mk h
  generalize AnswersM w = Q at *
  have CF := Lib.hid (fun w' (hb : Below w.heap.size w w') => law18_fixed w' (hH.T.below hb) (hH.M.below hb))
  have hsa : ∀ y ∈ rs ++ [x], SmallR y.1 := fun y hy => by
    rcases List.mem_append.1 hy with h | h
    · exact hs y h
    · obtain rfl : y = x := by simpa using h
      exact hsx
  have CG := Lib.hid (fun v w' (hb : Below w.heap.size w w') (hv : RulesIn w' v (rs ++ [x])) => law18_great (rs ++ [x]) hsa (by simpa using hn) v l hl.1 vl 20000 w' hv (hlr.below hb))
  have CA := Lib.hid (fun w' (hb : Below w.heap.size w w') => all_flat rs hs l hl vr vl w' (hH.T.below hb) (hH.M.below hb) (hr.below hb) (hlr.below hb))
  have CB := Lib.hid (fun v w' (hb : Below w.heap.size w w') (hv : RulesIn w' v (rs ++ [x])) => all_flat (rs ++ [x]) hsa l hl v vl w' (hH.T.below hb) (hH.M.below hb) hv (hlr.below hb))
  have CC := Lib.hid (fun w' (hb : Below w.heap.size w w') => rule_Check x.1 hsx x.2.1 x.2.2.1 x.2.2.2 w' (hH.T.below hb) (hH.M.below hb) (hin.below hb))
  have HRA := Lib.hid (show ∀ w', Below w.heap.size w w' → ∀ y ∈ rs ++ [x], RuleIn w' y.1 y.2.1 y.2.2.1 y.2.2.2 from fun w' hb y hy => by
    rcases List.mem_append.1 hy with h | h
    · exact (hr.E y h).below hb
    · obtain rfl : y = x := by simpa using h
      exact hin.below hb)
  have H1 := Lib.hid (rulesV_one rs (fun y hy => by
    have h := hr.E y hy
    obtain ⟨r, a, b, c⟩ := y
    simp only [] at h
    obtain ⟨aa, ac, rfl, _⟩ := Row.shape h.H
    obtain ⟨ba, bc, rfl, _⟩ := h.F.slice
    obtain ⟨ca, cc, rfl, _⟩ := h.B.slice
    exact ⟨_, _, _, _, _, _, _, _, _, _, rfl⟩))
  obtain ⟨r, vh, vf, vb⟩ := x
  simp only [] at hin hsx CC ⊢
  obtain ⟨ah, ch, rfl, hch⟩ := Row.shape hin.H
  obtain ⟨af, cf, rfl, hcf⟩ := hin.F.slice
  obtain ⟨ab, cb, rfl, hcb⟩ := hin.B.slice
  obtain ⟨ar, cr, rfl, hcr⟩ := hr.shape
  obtain ⟨al, cl, rfl, hcl⟩ := hlr.slice
  have HR := Lib.hid hr
  have HS := Lib.hid (show ∀ r' ∈ rs.map (·.1) ++ [r], r'.holes.length ≤ 1048576 from fun r' hr' => by
    rcases List.mem_append.1 hr' with h | h
    · obtain ⟨x, hx, rfl⟩ := List.mem_map.1 h; exact (hs x hx).h.1
    · obtain rfl : r' = r := by simpa using h
      exact hsx.h.1)
  have hll := hl.1
  have HR1 : RowKit.Hid (RK (w.alloc (.cells #[.string r.nm, .int .u8 (r.goal : Int), .slice ah r.holes.length ch, .slice af r.fnd.length cf, .slice ab r.by'.length cb] 25)) w.heap.size r.nm r.goal (.slice ah r.holes.length ch) (.slice af r.fnd.length cf) (.slice ab r.by'.length cb)) := Lib.hid (heap_alloc_new _ _)
  have HB1 : RowKit.Hid (Below w.heap.size w (w.alloc (.cells #[.string r.nm, .int .u8 (r.goal : Int), .slice ah r.holes.length ch, .slice af r.fnd.length cf, .slice ab r.by'.length cb] 25))) := Lib.hid ((Below.refl _ _).alloc (Nat.le_refl _) _)
  clear hr hlr hs hl hH hin hsx hsa
  unfold ruleAgg at CC ⊢
  go_enter Tryd.func7, Tryd.ntmps7
  go_upto_region 1 with (fail)
  generalize w.alloc (.cells #[.string r.nm, .int .u8 (r.goal : Int), .slice ah r.holes.length ch, .slice af r.fnd.length cf, .slice ab r.by'.length cb] 25) = W1 at *
  have hrw := Row.below HR.out.R HB1.out.drew
  have hgm : ∀ W, Below w.heap.size w W ↔ Below w.heap.size w W := fun _ => Iff.rfl
  generalize hgx : w.heap.size = gm at *
  have HGX := Lib.hid hgx
  clear hgx hgm
  have HK : RowKit.Hid (∀ W, Below W1.drew.heap.size W1.drew W → W.cell? ⟨gm, 0, none⟩ = some (.string r.nm) ∧ W.cell? ⟨gm, 1, none⟩ = some (.int .u8 (r.goal : Int)) ∧ W.cell? ⟨gm, 2, none⟩ = some (.slice ah r.holes.length ch) ∧ W.cell? ⟨gm, 3, none⟩ = some (.slice af r.fnd.length cf) ∧ W.cell? ⟨gm, 4, none⟩ = some (.slice ab r.by'.length cb)) := Lib.hid fun W hb =>
    (HR1.out.below ((Below.refl _ _).drew.trans (hb.mono (Nat.le_refl _)))).cells
  obtain ⟨hA, hB, hC⟩ := add_rows W1.drew hrw H1.out hn #[.string r.nm, .int .u8 (r.goal : Int), .slice ah r.holes.length ch, .slice af r.fnd.length cf, .slice ab r.by'.length cb] rfl (by intro u hu; simp at hu; rcases hu with rfl | rfl | rfl | rfl | rfl <;> rfl) 25 rfl
  obtain ⟨vA1, wA1, rA1, bA1, vA2, wA2, rA2, zA⟩ := hA
  obtain ⟨vB1, wB1, rB1, bB1, vB2, wB2, rB2, zB⟩ := hB
  obtain ⟨vC1, wC1, rC1, bC1, vC2, wC2, rC2, zC⟩ := hC
  clear hrw
  have hdw : ∀ (W : World) (o : Obj), W.drew.alloc o = (W.alloc o).drew := fun _ _ => rfl
  rw [hdw] at rA1
  rw [hdw, hdw] at rB1 rC1
  clear hdw
  have HZA := Lib.hid zA
  have HZB := Lib.hid zB
  have HZC := Lib.hid zC
  have HA1 := Lib.hid (HK.out _ bA1)
  have HA1' := Lib.hid (HK.out _ (bA1.alloc bA1.size (.cells #[.string r.nm, .int .u8 (r.goal : Int), .slice ah r.holes.length ch, .slice af r.fnd.length cf, .slice ab r.by'.length cb] 25)))
  have HB1' := Lib.hid (HK.out _ bB1)
  have HC1' := Lib.hid (HK.out _ bC1)
  have HA2 := Lib.hid (HK.out _ zA.2)
  have HB2 := Lib.hid (HK.out _ zB.2)
  have HC2 := Lib.hid (HK.out _ zC.2)
  clear bA1 bB1 bC1 zA zB zC
  refine region_cut (fun a a' w' => ∃ x14 x16 x18 v, a' = (((((((a.put (some 14) x14).put (some 15) (.slice ar rs.length cr)).put (some 16) x16).put (some 17) (.agg #[.string r.nm, .int .u8 (r.goal : Int), .slice ah r.holes.length ch, .slice af r.fnd.length cf, .slice ab r.by'.length cb])).put (some 18) x18).put (some 19) v).put (some 7) v) ∧ AddRow W1.drew.heap.size W1.drew (rs.flatMap ruleV ++ (#[.string r.nm, .int .u8 (r.goal : Int), .slice ah r.holes.length ch, .slice af r.fnd.length cf, .slice ab r.by'.length cb] : Array Value).toList) (rs.length + 1) v w') ?_ ?_
  · go_region_held3 (fun W => W.cell? ⟨gm, 0, none⟩ = some (.string r.nm) ∧ W.cell? ⟨gm, 1, none⟩ = some (.int .u8 (r.goal : Int)) ∧ W.cell? ⟨gm, 2, none⟩ = some (.slice ah r.holes.length ch) ∧ W.cell? ⟨gm, 3, none⟩ = some (.slice af r.fnd.length cf) ∧ W.cell? ⟨gm, 4, none⟩ = some (.slice ab r.by'.length cb)) (first | exact HA1.out | exact HA1'.out | exact HB1'.out | exact HC1'.out | exact HA2.out | exact HB2.out | exact HC2.out | exact HK.out _ (Below.refl _ _) | exact HK.out _ ((Below.refl _ _).alloc (Nat.le_refl _) _) | exact HK.out _ (((Below.refl _ _).alloc (Nat.le_refl _) _).alloc (by simp) _)) ((rw [if_pos (by kernel_rfl)]; first | (with_reducible (show Oper.wp _ _ _ (W1.alloc (.cells #[] 25)).drew _ _); refine oper_append_run _ _ _ _ rA1 rfl rfl rfl rfl ?_) | (with_reducible (show Oper.wp _ _ _ ((W1.alloc (.cells #[] 25)).alloc (.cells #[.string r.nm, .int .u8 (r.goal : Int), .slice ah r.holes.length ch, .slice af r.fnd.length cf, .slice ab r.by'.length cb] 25)).drew _ _); refine oper_append_run _ _ _ _ rB1 rfl rfl rfl rfl ?_) | (with_reducible (show Oper.wp _ _ _ ((W1.alloc (.cells #[.string r.nm, .int .u8 (r.goal : Int), .slice ah r.holes.length ch, .slice af r.fnd.length cf, .slice ab r.by'.length cb] 25)).alloc (.cells #[] 25)).drew _ _); refine oper_append_run _ _ _ _ rC1 rfl rfl rfl rfl ?_) | (with_reducible (show Oper.wp _ _ _ (wA1.alloc (.cells #[.string r.nm, .int .u8 (r.goal : Int), .slice ah r.holes.length ch, .slice af r.fnd.length cf, .slice ab r.by'.length cb] 25)) _ _); refine oper_append_run _ _ _ _ rA2 rfl rfl rfl rfl ?_) | (with_reducible (show Oper.wp _ _ _ wB1 _ _); refine oper_append_run _ _ _ _ rB2 rfl rfl rfl rfl ?_) | (with_reducible (show Oper.wp _ _ _ wC1 _ _); refine oper_append_run _ _ _ _ rC2 rfl rfl rfl rfl ?_)))
    all_goals first
      | exact ⟨_, _, _, _, rfl, HZA.out⟩
      | exact ⟨_, _, _, _, rfl, HZB.out⟩
      | exact ⟨_, _, _, _, rfl, HZC.out⟩
  · rintro _ w2 ⟨x14, x16, x18, v, rfl, hv⟩
    (try simp only [Act.put, List.setIfInBounds_toArray, List.set_cons_zero, List.set_cons_succ])
    obtain rfl := HGX.out
    obtain ⟨av, cv, rfl, hcv⟩ := Row.shape (Row.of_owns hv.1)
    have hb2 : Below w.heap.size w w2 := HB1.out.drew.trans (hv.2.mono HB1.out.drew.size)
    have hrr : RulesIn w2 (.slice av (rs.length + 1) cv) (rs ++ [(r, .slice ah r.holes.length ch, .slice af r.fnd.length cf, .slice ab r.by'.length cb)]) := by
      refine ⟨?_, HRA.out w2 hb2⟩
      have h1 := Row.of_owns hv.1
      rw [List.length_append, List.flatMap_append]
      simpa [ruleV] using h1
    have HBW := Lib.hid hb2
    have HRR := Lib.hid hrr
    have HK2 := Lib.hid (fun W (hb : Below w2.heap.size w2 W) => HK.out W (hv.2.trans (hb.mono hv.2.size)))
    have CG2 := Lib.hid (CG.out _ w2 hb2 hrr)
    have hmp : (rs ++ [(r, (Value.slice ah r.holes.length ch), (Value.slice af r.fnd.length cf), (Value.slice ab r.by'.length cb))]).map (·.1) = rs.map (·.1) ++ [r] := by simp
    have HE := Lib.hid (fun h => err_added (rules := rs.map (·.1)) (m := r) (l := l) (by rw [List.length_map]; exact h))
    clear hv hb2 hrr CG HK H1 HRA rA1 rA2 rB1 rB2 rC1 rC2 HZA HZB HZC HA1 HA1' HB1' HC1' HA2 HB2 HC2 HB1 HR1
    generalize hn1 : rs.length + 1 = n1 at *
    have HN1 := Lib.hid hn1
    go_wp2_with fail
    refine CG2.out.mono ?_
    intro e w3 h3
    obtain ⟨y, rfl, hb3⟩ := h3.out
    have HB3 := Lib.hid (bthen HBW.out hb3)
    have HK3 := Lib.hid (fun W (hb : Below w3.heap.size w3 W) => HK2.out W (bthen hb3 hb))
    have HRR3 := Lib.hid (HRR.out.below hb3)
    clear h3 hb3 CG2 HK2 HRR HBW
    cases y with
    | true =>
      go_wp2_with fail
      refine (CF.out w3 HB3.out).mono ?_
      rintro e wZ ⟨rfl, hbZ⟩
      have HX := Lib.hid (HQ.out wZ (bthen HB3.out hbZ))
      clear hbZ
      go_wp2_with fail
      exact HX.out
    | false =>
    by_cases h32 : (32 : Int) < n1
    · go_wp2_with fail
      refine (CF.out w3 HB3.out).mono ?_
      rintro e wZ ⟨rfl, hbZ⟩
      have HX := Lib.hid (HQ.out wZ (bthen HB3.out hbZ))
      clear hbZ
      go_wp2_with fail
      exact HX.out
    have h33 : n1 ≤ 32 := by omega
    have h34 : rs.length ≤ 32 := by omega
    go_wp2_with fail
    refine (CA.out w3 HB3.out).mono ?_
    rintro e w4 ⟨va, vc, xs, rfl, hvc, hxs, hms, hb4, _, _⟩
    have HB4 := Lib.hid (bthen HB3.out hb4)
    have HMS := Lib.hid hms
    have HXS := Lib.hid hxs
    have HRR4 := Lib.hid (HRR3.out.below hb4)
    have HK4 := Lib.hid (fun W (hb : Below w4.heap.size w4 W) => HK3.out W (bthen hb4 hb))
    clear hb4 hms hxs CA HB3 HRR3 HK3
    have CB2 := Lib.hid (CB.out _ w4 HB4.out HRR4.out)
    rw [hmp] at CB2
    go_wp2_with fail
    refine CB2.out.mono ?_
    rintro e w5 ⟨va2, vc2, ys, rfl, hvc2, hys, hms, hb5, _, _⟩
    have HB5 := Lib.hid (bthen HB4.out hb5)
    have HMS5 := Lib.hid (HMS.out.below hb5)
    have HNS := Lib.hid hms
    have HYS := Lib.hid hys
    have HK5 := Lib.hid (fun W (hb : Below w5.heap.size w5 W) => HK4.out W (bthen hb5 hb))
    clear hb5 hms hys CB CB2 HB4 HRR4 HK4 HMS hmp
    have hE := HE.out (by omega)
    clear HE
    generalize hze : findErr (rs.map (·.1)) l = ze at *
    generalize hzf : findErr (rs.map (·.1) ++ [r]) l = zf at *
    clear hze hzf
    by_cases hz : ze = 0
    case neg =>
      have hzz := hE.1 hz
      have g1 : (ze != 0) = true := by rw [bne_iff_ne]; exact hz
      have g2 : (ze == 0) = false := by rw [beq_eq_false_iff_ne]; exact hz
      clear hz hE HXS HYS
      subst hzz
      go_wp2_with fail
      refine (CF.out w5 HB5.out).mono ?_
      rintro e wZ ⟨rfl, hbZ⟩
      have HX := Lib.hid (HQ.out wZ (bthen HB5.out hbZ))
      clear hbZ
      go_wp2_with fail
      exact HX.out
    subst hz
    have hzr := hE.2 rfl
    clear hE
    by_cases hz : zf = 0
    case neg =>
      have g1 : (zf != 0) = true := by rw [bne_iff_ne]; exact hz
      have g2 : (zf == 0) = false := by rw [beq_eq_false_iff_ne]; exact hz
      clear hz HXS HYS
      go_wp2_with fail
      refine (CF.out w5 HB5.out).mono ?_
      rintro e wZ ⟨rfl, hbZ⟩
      have HBZ := Lib.hid (bthen HB5.out hbZ)
      obtain ⟨c0, c1, c2, c3, c4⟩ := HK5.out wZ hbZ
      clear hbZ
      go_wp2_with fail
      refine (CC.out wZ HBZ.out).mono ?_
      rintro e wY ⟨rfl, hbY⟩
      have HX := Lib.hid (HQ.out wY (bthen HBZ.out hbY))
      rw [← hzr]
      clear hbY hzr
      go_wp2_with fail
      exact HX.out
    subst hz
    have hxs := HXS.out
    have hys := HYS.out
    rw [if_pos rfl] at hxs hys
    have hxl : xs.length ≤ 1048576 * 32 := by
      have h1 := accM_len (rs.map (·.1)) l l.length 0
      rw [accM_all, List.length_map, ← hxs, List.length_map] at h1
      have h2 : l.length * rs.length ≤ 1048576 * 32 := Nat.mul_le_mul hll h34
      omega
    have hyl : ys.length ≤ 1048576 * 32 := by
      have h1 := accM_len (rs.map (·.1) ++ [r]) l l.length 0
      rw [accM_all, show (rs.map (·.1) ++ [r]).length = rs.length + 1 by simp, ← hys, List.length_map] at h1
      have h2 : l.length * (rs.length + 1) ≤ 1048576 * 32 := Nat.mul_le_mul hll (by omega)
      omega
    have hbx : ∀ x ∈ xs, x.1.2.2.length ≤ 1048576 := fun x hx => allM_small (fun r' hr' => HS.out r' (List.mem_append_left _ hr')) hll _ (by rw [← hxs]; exact List.mem_map_of_mem hx)
    have hby : ∀ x ∈ ys, x.1.2.2.length ≤ 1048576 := fun x hx => allM_small HS.out hll _ (by rw [← hys]; exact List.mem_map_of_mem hx)
    have heq : xs.map (·.1) = (ys.filter fun x => decide (x.1.1 < rs.length)).map (·.1) := by
      have h1 := allM_added (rs.map (·.1)) r l
      rw [← hys, List.length_map, List.filter_map] at h1
      rw [hxs, ← h1]; rfl
    have HBX := Lib.hid hbx
    have HBY := Lib.hid hby
    have HEQ := Lib.hid heq
    clear hxs hys hbx hby heq HXS HYS hzr HK5 CC HS
    go_wp2_with fail
    go_loopw [12, 13] (fun v iv wr => faKeep rs.length ys w5.heap.size w5 v iv wr) (fun _ iv _ => ys.length - (intOf iv).toNat)
    case atStart => exact ⟨0, rfl, Nat.zero_le _, by simpa [mchsV] using World.ownsRow_nil _ _ _ _, Below.refl _ _⟩
    case round =>
      obtain ⟨i, rfl, hi, ho, hb⟩ := hrel
      have HB := Lib.hid hb
      have HO := Lib.hid ho
      obtain ⟨ra, rn, rc, rfl⟩ := owns_slice ho
      clear hb ho
      by_cases hlt : i < ys.length
      · obtain ⟨yb, yo, rfl, _, _, hcm⟩ := HNS.out.at HB.out (show 0 < ys.length by omega)
        obtain ⟨c0, c1, c2⟩ := hcm i hlt
        have hyE := HNS.out.E _ (List.getElem_mem hlt)
        have htk : (ys.take (i + 1)).filter (fun x => decide (x.1.1 < rs.length)) = (ys.take i).filter (fun x => decide (x.1.1 < rs.length)) ++ (if (ys[i]).1.1 < rs.length then [ys[i]] else []) := by
          rw [take_snoc hlt, List.filter_append]
          congr 1
          by_cases h : (ys[i]).1.1 < rs.length <;> simp [h]
        have HTK := Lib.hid htk
        have hfl : ((ys.take i).filter (fun x => decide (x.1.1 < rs.length))).length ≤ ys.length := by
          refine Nat.le_trans (List.length_filter_le _ _) ?_
          rw [List.length_take]; omega
        clear hcm htk
        generalize ys[i] = y at *
        obtain ⟨⟨y1, y2, ybs⟩, yv⟩ := y
        simp only [] at c0 c1 c2 hyE HTK
        obtain ⟨yva, yvc, rfl, hyvc⟩ := Row.shape hyE
        have hi0 : (0 : Int) ≤ (i : Int) := by omega
        have hil : (i : Int) < ys.length := by omega
        have hic : (i : Int) < vc2 := by omega
        have hbs := HB.out.size
        clear hyE
        by_cases hq : y1 < rs.length
        · have hq' : (y1 : Int) < rs.length := by omega
          go_wp2_with (at_builtin; refine wpList_append_lit wr #[.int .i64 (y1 : Int), .int .i64 (y2 : Int), .slice yva ybs.length yvc] _ rfl _ _ 42 48 rfl Tryd.underlying42 w5.heap.size Minfo_match rfl (by decide) _ _ _ rfl HO.out 1 1 rfl rfl (by decide) (by intro u hu; simp at hu; rcases hu with rfl | rfl | rfl <;> rfl) (by omega) (by omega) hbs ?_; intro v2 w6 hown hgr _)
          have HX : RowKit.Hid (faKeep rs.length ys w5.heap.size w5 v2 (.int .i64 ((i : Int) + 1)) w6) := Lib.hid ⟨i + 1, by push_cast; rfl, hlt, by
            rw [HTK.out, if_pos hq, mchsV_snoc, List.length_append]; exact hown, (HB.out.alloc HB.out.size _).grown hgr (by have := HB.out.size; simp; omega) (fun q e => (HO.out.lt q e).1)⟩
          clear hown hgr
          go_wp2_with fail
          exact ⟨HX.out, by simp only [intOf]; omega⟩
        · have hq' : ¬ (y1 : Int) < rs.length := by omega
          have HX : RowKit.Hid (faKeep rs.length ys w5.heap.size w5 (.slice ra rn rc) (.int .i64 ((i : Int) + 1)) wr) := Lib.hid ⟨i + 1, by push_cast; rfl, hlt, by
            rw [HTK.out, if_neg hq, List.append_nil]; exact HO.out, HB.out⟩
          go_wp2_with fail
          exact ⟨HX.out, by simp only [intOf]; omega⟩
      · obtain rfl : i = ys.length := by omega
        have ho := HO.out
        rw [List.take_of_length_le (Nat.le_refl _)] at ho
        have hfl : (ys.filter (fun x => decide (x.1.1 < rs.length))).length ≤ ys.length := List.length_filter_le _ _
        have hmi : MchsIn wr (.slice ra rn rc) (ys.filter (fun x => decide (x.1.1 < rs.length))) := ⟨Row.of_owns ho, fun x hx => (HNS.out.below HB.out).E x (List.mem_filter.1 hx).1⟩
        have CS := Lib.hid (fun W (hb : Below wr.heap.size wr W) => ref_Same18 xs (ys.filter (fun x => decide (x.1.1 < rs.length))) (by omega) (by omega) HBX.out (fun x hx => HBY.out x (List.mem_filter.1 hx).1) _ _ W (HMS5.out.below (bthen HB.out hb)) (hmi.below hb))
        have HB6 := Lib.hid (bthen HB5.out HB.out)
        clear ho hmi hfl
        go_wp2_with fail
        refine (CF.out wr HB6.out).mono ?_
        rintro e wZ ⟨rfl, hbZ⟩
        have HBZ := Lib.hid (bthen HB6.out hbZ)
        have CS2 := Lib.hid (CS.out wZ hbZ)
        clear hbZ CS
        go_wp2_with fail
        refine CS2.out.mono ?_
        rintro e wY ⟨z, rfl, ht, hbY⟩
        obtain rfl : z = true := ht.2 HEQ.out
        have HX := Lib.hid (HQ.out wY (bthen HBZ.out hbY))
        clear ht hbY CS2
        go_wp2_with fail
        exact HX.out
end Go.Proofs.YtbhicblkgjgenaaDoor
