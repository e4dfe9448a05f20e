/- The statement MatchAll, walked: the call returns true. -/
import Derived.Test.YtlkheofphafofaaGreatDoorRefAtM
import Derived.Test.YtlkheofphafofaaGreatDoorRangeMM
import Derived.Test.YtlkheofphafofaaGreatDoorFix17M
namespace Go.Proofs.YtlkheofphafofaaGreatDoor
set_option linter.all false
attribute [local irreducible] Calls
open Go.RowKit

def maRel (n : Nat) (w3 : World) (iv : Value) (wr : World) : Prop := ∃ i : Nat, iv = .int .i64 (i : Int) ∧ i ≤ n ∧ Below w3.heap.size w3 wr
set_option maxRecDepth 100000 in
set_option maxHeartbeats 8000000 in
theorem MatchAll_walk (w : World) (x : RuleX) (hin : RuleIn w x.1 x.2.1 x.2.2.1 x.2.2.2) (hs : SmallR x.1) (vl : Value) (l : List Prt) (hr : PartRow w vl l) (hl : SmallL l) (hH : HeldM w) :
  Calls Tryz.prog 4 #[ruleAgg x.1 x.2.1 x.2.2.1 x.2.2.2, vl] w (AnswersM w) := by
 obtain ⟨r, vh, vf, vb⟩ := x
 simp only [] at hin hs ⊢
 have HQ : RowKit.Hid (∀ w', Below w.heap.size w w' → AnswersM w (.returned (.bool true)) w') := Lib.hid fun w' h => AnswersM.mk h
 generalize AnswersM w = Q at *
 have CF := Lib.hid (fun w' (hb : Below w.heap.size w w') => law17_fixed w' (hH.T.below hb) (hH.M.below hb))
 have CG := Lib.hid (fun w' (hb : Below w.heap.size w w') => law17_great r hs vh vf vb l hl.1 vl w' (hin.below hb) (hr.below hb))
 have CA := Lib.hid (fun (i : Int) w' (hb : Below w.heap.size w w') => at_flat r hs vh vf vb l hl vl i w' (hH.T.below hb) (hH.M.below hb) (hin.below hb) (hr.below hb))
 have CR := Lib.hid (fun (i : Int) w' (hb : Below w.heap.size w w') => ref_At r hs vh vf vb l hl vl i w' (hin.below hb) (hr.below hb))
 have HBL : RowKit.Hid (∀ i : Int, (bndO r (atZ r l i)).length ≤ 1048576) := Lib.hid (fun i => by
  cases h : atZ r l i with
  | none => simp [bndO]
  | some τ => rw [show bndO r (some τ) = bindsOf r.holes τ from rfl, (binds_small h hl.1).1]; exact hs.h.1)
 obtain ⟨ah, ch, rfl, hch⟩ := Row.shape hin.H
 obtain ⟨af, cf, rfl, hcf⟩ := hin.F.slice
 obtain ⟨ab, cb, rfl, hcb⟩ := hin.B.slice
 obtain ⟨al, cl, rfl, hcl⟩ := hr.slice
 have HR1 : RowKit.Hid (RK (w.alloc (.cells #[.string r.nm, .int .u8 (r.goal : Int), .slice ah r.holes.length ch, .slice af r.fnd.length cf, .slice ab r.by'.length cb] 25)) w.heap.size r.nm r.goal (.slice ah r.holes.length ch) (.slice af r.fnd.length cf) (.slice ab r.by'.length cb)) := Lib.hid (heap_alloc_new _ _)
 have HB1 : RowKit.Hid (Below w.heap.size w (w.alloc (.cells #[.string r.nm, .int .u8 (r.goal : Int), .slice ah r.holes.length ch, .slice af r.fnd.length cf, .slice ab r.by'.length cb] 25))) := Lib.hid ((Below.refl _ _).alloc (Nat.le_refl _) _)
 have HLL := Lib.hid hl.1
 clear hin hs hr hl hH
 unfold ruleAgg at *
 unfold FlatP at CA CR
 have hll := HLL.out
 go_enter Tryz.func4, Tryz.ntmps4
 go_upto_region 1 with (fail)
 generalize w.alloc (.cells #[.string r.nm, .int .u8 (r.goal : Int), .slice ah r.holes.length ch, .slice af r.fnd.length cf, .slice ab r.by'.length cb] 25) = W1 at *
 obtain ⟨e0, e1, e2, e3, e4⟩ := HR1.out.cells
 have CG1 := Lib.hid (CG.out W1 HB1.out)
 go_wp2_with fail
 refine CG1.out.mono ?_
 intro e w3 h3
 obtain ⟨y, rfl, hb3⟩ := h3.out
 have HB3 := Lib.hid (bthen HB1.out hb3)
 have HR3 := Lib.hid (HR1.out.below hb3)
 clear h3 hb3 CG1 CG e0 e1 e2 e3 e4 HB1 HR1
 cases y with
 | true =>
  go_wp2_with fail
  refine (CF.out w3 HB3.out).mono ?_
  rintro e wZ ⟨rfl, hbZ⟩
  have HX := Lib.hid (HQ.out wZ (bthen HB3.out hbZ))
  clear hbZ
  go_wp2_with fail
  exact HX.out
 | false =>
 by_cases h60 : (60 : Int) < l.length
 ·go_wp2_with fail
  refine (CF.out w3 HB3.out).mono ?_
  rintro e wZ ⟨rfl, hbZ⟩
  have HX := Lib.hid (HQ.out wZ (bthen HB3.out hbZ))
  clear hbZ
  go_wp2_with fail
  exact HX.out
 go_wp2_with fail
 go_loopw [5] (fun iv wr => maRel l.length w3 iv wr) (fun iv _ => l.length - (intOf iv).toNat)
 case atStart => exact ⟨0, rfl, Nat.zero_le _, Below.refl _ _⟩
 case round =>
  obtain ⟨i, rfl, hi, hb⟩ := hrel
  have HB := Lib.hid hb
  have HBW := Lib.hid (bthen HB3.out hb)
  have HRr := Lib.hid (HR3.out.below hb)
  clear hb
  by_cases hlt : i < l.length
  ·have hil : (i : Int) < l.length := by omega
   obtain ⟨e0, e1, e2, e3, e4⟩ := HRr.out.cells
   have CA1 := Lib.hid (CA.out (i : Int) wr HBW.out)
   go_wp2_with fail
   refine CA1.out.mono ?_
   rintro e w4 ⟨pa, pc, rfl, hpc, hrp, hb4⟩
   have HB4 := Lib.hid (bthen HB.out hb4)
   have HBW4 := Lib.hid (bthen HBW.out hb4)
   have HR4 := Lib.hid (HRr.out.below hb4)
   have HP4 := Lib.hid hrp
   clear hb4 hrp CA1 e0 e1 e2 e3 e4 HB HBW HRr
   obtain ⟨e0, e1, e2, e3, e4⟩ := HR4.out.cells
   have CR1 := Lib.hid (CR.out (i : Int) w4 HBW4.out)
   go_wp2_with fail
   refine CR1.out.mono ?_
   rintro e w5 ⟨qa, qc, rfl, hqc, hrq, hb5⟩
   have HB5 := Lib.hid (bthen HB4.out hb5)
   have HP5 := Lib.hid (HP4.out.below hb5)
   have HQ5 := Lib.hid hrq
   have HBLi := Lib.hid (HBL.out (i : Int))
   clear hb5 hrq CR1 e0 e1 e2 e3 e4 HB4 HBW4 HR4 HP4
   generalize bndO r (atZ r l (i : Int)) = B at *
   generalize (atZ r l (i : Int)).isSome = y at *
   have hyy : (y != y) = false := by cases y <;> rfl
   have CS := Lib.hid (ref_SameBinds B B HBLi.out HBLi.out _ _ w5 HP5.out HQ5.out)
   go_wp2_with fail
   refine CS.out.mono ?_
   rintro e w7 ⟨x, rfl, ht, hb7⟩
   obtain rfl := ht.2 rfl
   have HX : RowKit.Hid (maRel l.length w3 (.int .i64 ((i : Int) + 1)) w7) := Lib.hid ⟨i + 1, by push_cast; rfl, hlt, bthen HB5.out hb7⟩
   clear hb7 ht CS
   go_wp2_with fail
   exact ⟨HX.out, by simp only [intOf]; omega⟩
  ·obtain rfl : i = l.length := by omega
   have hil : ¬ (l.length : Int) < l.length := by omega
   go_wp2_with fail
   refine (CF.out wr HBW.out).mono ?_
   rintro e wZ ⟨rfl, hbZ⟩
   have HX := Lib.hid (HQ.out wZ (bthen HBW.out hbZ))
   clear hbZ
   go_wp2_with fail
   exact HX.out
end Go.Proofs.YtlkheofphafofaaGreatDoor
