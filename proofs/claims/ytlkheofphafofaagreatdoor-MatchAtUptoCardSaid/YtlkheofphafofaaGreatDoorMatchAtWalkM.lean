/- The statement MatchAt, walked: the call returns true. -/
import Derived.Test.YtlkheofphafofaaGreatDoorRefAtM
import Derived.Test.YtlkheofphafofaaGreatDoorRangeMM
import Derived.Test.YtlkheofphafofaaGreatDoorFix17M
namespace Go.Proofs.YtlkheofphafofaaGreatDoor
set_option linter.all false
attribute [local irreducible] Calls
open Go.RowKit

set_option maxRecDepth 100000 in
set_option maxHeartbeats 8000000 in
theorem MatchAt_walk (w : World) (x : RuleX) (hin : RuleIn w x.1 x.2.1 x.2.2.1 x.2.2.2) (hs : SmallR x.1) (vl : Value) (l : List Prt) (hr : PartRow w vl l) (hl : SmallL l) (i : Int) (hH : HeldM w) :
  Calls Tryz.prog 3 #[ruleAgg x.1 x.2.1 x.2.2.1 x.2.2.2, vl, .int .i64 i] w (AnswersM w) := by
 obtain ⟨r, vh, vf, vb⟩ := x
 simp only [] at hin hs ⊢
 have HQ : RowKit.Hid (∀ w', Below w.heap.size w w' → AnswersM w (.returned (.bool true)) w') := Lib.hid fun w' h => AnswersM.mk h
 generalize AnswersM w = Q at *
 have CF := Lib.hid (fun w' (hb : Below w.heap.size w w') => law17_fixed w' (hH.T.below hb) (hH.M.below hb))
 have CG := Lib.hid (fun w' (hb : Below w.heap.size w w') => law17_great r hs vh vf vb l hl.1 vl w' (hin.below hb) (hr.below hb))
 have CA := Lib.hid (fun w' (hb : Below w.heap.size w w') => at_flat r hs vh vf vb l hl vl i w' (hH.T.below hb) (hH.M.below hb) (hin.below hb) (hr.below hb))
 have CR := Lib.hid (fun w' (hb : Below w.heap.size w w') => ref_At r hs vh vf vb l hl vl i w' (hin.below hb) (hr.below hb))
 have HBL : RowKit.Hid ((bndO r (atZ r l i)).length ≤ 1048576) := Lib.hid (by
  cases h : atZ r l i with
  | none => simp [bndO]
  | some τ => rw [show bndO r (some τ) = bindsOf r.holes τ from rfl, (binds_small h hl.1).1]; exact hs.h.1)
 obtain ⟨ah, ch, rfl, hch⟩ := Row.shape hin.H
 obtain ⟨af, cf, rfl, hcf⟩ := hin.F.slice
 obtain ⟨ab, cb, rfl, hcb⟩ := hin.B.slice
 obtain ⟨al, cl, rfl, hcl⟩ := hr.slice
 have HR1 : RowKit.Hid (RK (w.alloc (.cells #[.string r.nm, .int .u8 (r.goal : Int), .slice ah r.holes.length ch, .slice af r.fnd.length cf, .slice ab r.by'.length cb] 25)) w.heap.size r.nm r.goal (.slice ah r.holes.length ch) (.slice af r.fnd.length cf) (.slice ab r.by'.length cb)) := Lib.hid (heap_alloc_new _ _)
 have HB1 : RowKit.Hid (Below w.heap.size w (w.alloc (.cells #[.string r.nm, .int .u8 (r.goal : Int), .slice ah r.holes.length ch, .slice af r.fnd.length cf, .slice ab r.by'.length cb] 25))) := Lib.hid ((Below.refl _ _).alloc (Nat.le_refl _) _)
 clear hin hs hr hl hH
 unfold ruleAgg at *
 unfold FlatP at CA CR
 generalize atZ r l i = o at *
 go_enter Tryz.func3, Tryz.ntmps3
 go_upto_region 1 with (fail)
 generalize w.alloc (.cells #[.string r.nm, .int .u8 (r.goal : Int), .slice ah r.holes.length ch, .slice af r.fnd.length cf, .slice ab r.by'.length cb] 25) = W1 at *
 obtain ⟨e0, e1, e2, e3, e4⟩ := HR1.out.cells
 have CG1 := Lib.hid (CG.out W1 HB1.out)
 go_wp2_with fail
 refine CG1.out.mono ?_
 intro e w3 h3
 obtain ⟨y, rfl, hb3⟩ := h3.out
 have HB3 := Lib.hid (bthen HB1.out hb3)
 have HR3 := Lib.hid (HR1.out.below hb3)
 clear h3 hb3 CG1 CG e0 e1 e2 e3 e4 HB1 HR1
 cases y with
 | true =>
  go_wp2_with fail
  refine (CF.out w3 HB3.out).mono ?_
  rintro e wZ ⟨rfl, hbZ⟩
  have HX := Lib.hid (HQ.out wZ (bthen HB3.out hbZ))
  clear hbZ
  go_wp2_with fail
  exact HX.out
 | false =>
 obtain ⟨e0, e1, e2, e3, e4⟩ := HR3.out.cells
 have CA1 := Lib.hid (CA.out w3 HB3.out)
 go_wp2_with fail
 refine CA1.out.mono ?_
 rintro e w4 ⟨pa, pc, rfl, hpc, hrp, hb4⟩
 have HB4 := Lib.hid (bthen HB3.out hb4)
 have HR4 := Lib.hid (HR3.out.below hb4)
 have HP4 := Lib.hid hrp
 clear hb4 hrp CA1 CA e0 e1 e2 e3 e4 HB3 HR3
 obtain ⟨e0, e1, e2, e3, e4⟩ := HR4.out.cells
 have CR1 := Lib.hid (CR.out w4 HB4.out)
 go_wp2_with fail
 refine CR1.out.mono ?_
 rintro e w5 ⟨qa, qc, rfl, hqc, hrq, hb5⟩
 have HB5 := Lib.hid (bthen HB4.out hb5)
 have HP5 := Lib.hid (HP4.out.below hb5)
 have HQ5 := Lib.hid hrq
 clear hb5 hrq CR1 CR e0 e1 e2 e3 e4 HB4 HR4 HP4
 generalize bndO r o = B at *
 generalize o.isSome = y at *
 go_wp2_with fail
 refine (CF.out w5 HB5.out).mono ?_
 rintro e w6 ⟨rfl, hb6⟩
 have HB6 := Lib.hid (bthen HB5.out hb6)
 have CS := Lib.hid (ref_SameBinds B B HBL.out HBL.out _ _ w6 (HP5.out.below hb6) (HQ5.out.below hb6))
 clear hb6 CF
 go_wp2_with fail
 refine CS.out.mono ?_
 rintro e w7 ⟨x, rfl, ht, hb7⟩
 obtain rfl := ht.2 rfl
 have HX := Lib.hid (HQ.out w7 (bthen HB6.out hb7))
 clear hb7 ht CS
 go_wp2_with fail
 exact HX.out
end Go.Proofs.YtlkheofphafofaaGreatDoor
