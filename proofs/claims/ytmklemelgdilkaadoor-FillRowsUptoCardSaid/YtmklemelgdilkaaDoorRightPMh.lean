/- Layer 20 in plain Lean: may binds be, hole by hole. -/
import Derived.Test.YtmklemelgdilkaaDoorStepPMh
import Derived.Test.YtmklemelgdilkaaDoorRuleCheckMh
import Derived.Test.YtmklemelgdilkaaDoorTermMh
import Derived.Test.YtmklemelgdilkaaDoorMapSMh
import Derived.Test.YtmklemelgdilkaaDoorCheckDMh
import Derived.BigQuiet
import Derived.Deep.QuietTactic
import Derived.Test.YtmklemelgdilkaaDoorQuoted2Mh
import Derived.Test.YtmklemelgdilkaaDoorGuardPMh
namespace Go.Proofs.YtmklemelgdilkaaDoor
set_option linter.all false

theorem right_len {r : RuleM} {l : List Prt} {bs : List Bnd} (h : bs.length ≠ r.holes.length) : rightB r l bs = false := by
 cases e : rightB r l bs with
 | false => rfl
 | true => exact absurd (rightB_iff.1 e).1 h
theorem right_no {r : RuleM} {l : List Prt} {bs : List Bnd} {n : Nat} (hh : n < r.holes.length) (hb : n < bs.length) (h : okB l r.holes[n] bs[n] = false) : rightB r l bs = false := by
 cases e : rightB r l bs with
 | false => rfl
 | true =>
  have := (rightB_iff.1 e).2 n hh hb
  rw [h] at this
  cases this
def RightTo (r : RuleM) (l : List Prt) (bs : List Bnd) (n : Nat) : Prop := ∀ i (hh : i < r.holes.length) (hb : i < bs.length), i < n → okB l r.holes[i] bs[i] = true
theorem right_yes {r : RuleM} {l : List Prt} {bs : List Bnd} (hl : bs.length = r.holes.length) (h : RightTo r l bs bs.length) : rightB r l bs = true := rightB_iff.2 ⟨hl, fun i hh hb => h i hh hb hb⟩
theorem RightTo.next {r : RuleM} {l : List Prt} {bs : List Bnd} {n : Nat} (h : RightTo r l bs n) (hk : ∀ (hh : n < r.holes.length) (hb : n < bs.length), okB l r.holes[n] bs[n] = true) : RightTo r l bs (n + 1) := fun i hh hb hi => by
 by_cases e : i = n
 ·subst e; exact hk hh hb
 ·exact h i hh hb (by omega)
section
variable {l : List Prt} {h : Hl} {b : Bnd}
theorem okB_name (e : b.1 ≠ h.1) : okB l h b = false := by unfold okB; rw [decide_eq_false e]; rfl
theorem okB_rng (e : ¬ (0 ≤ b.2.1 ∧ b.2.1 ≤ b.2.2 ∧ b.2.2 ≤ l.length)) : okB l h b = false := by unfold okB; rw [decide_eq_false e]; simp
theorem okB_trees (e : treesZ (piece l b.2.1.toNat b.2.2.toNat) < 0) : okB l h b = false := by unfold okB; rw [decide_eq_false (show ¬ 0 ≤ treesZ (piece l b.2.1.toNat b.2.2.toNat) by omega)]; simp
theorem okB_one (hs : isSev h.2 = false) (e : treesZ (piece l b.2.1.toNat b.2.2.toNat) ≠ 1) : okB l h b = false := by unfold okB; rw [hs, decide_eq_false e]; simp
theorem okB_may (hs : isSev h.2 = false) (e : mayB h.2 (kindAt l b.2.1.toNat) = false) : okB l h b = false := by unfold okB; rw [hs, e]; simp
theorem okB_yes (e1 : b.1 = h.1) (e2 : 0 ≤ b.2.1 ∧ b.2.1 ≤ b.2.2 ∧ b.2.2 ≤ l.length) (e3 : 0 ≤ treesZ (piece l b.2.1.toNat b.2.2.toNat)) (e4 : isSev h.2 = false → treesZ (piece l b.2.1.toNat b.2.2.toNat) = 1 ∧ mayB h.2 (kindAt l b.2.1.toNat) = true) : okB l h b = true := by
 unfold okB
 rw [decide_eq_true e1, decide_eq_true e2, decide_eq_true e3]
 cases hs : isSev h.2 with
 | true => rfl
 | false =>
  obtain ⟨e5, e6⟩ := e4 hs
  rw [decide_eq_true e5, e6]; rfl
end
end Go.Proofs.YtmklemelgdilkaaDoor
namespace Go.Proofs.YtmklemelgdilkaaDoor
set_option linter.all false
attribute [local irreducible] Calls
open Go.RowKit

def lcRel (rs : List RuleX) (w0 : World) (iv : Value) (wr : World) : Prop := ∃ k : Nat, iv = .int .i64 (k : Int) ∧ k ≤ rs.length ∧ firstErr (rs.map (·.1)) = firstErr ((rs.drop k).map (·.1)) ∧ Below w0.heap.size w0 wr
set_option maxRecDepth 100000 in
set_option maxHeartbeats 8000000 in
theorem fill_check (rs : List RuleX) (hs : ∀ x ∈ rs, SmallR x.1) (l : List Prt) (hl : l.length ≤ 1048576) (vr vl : Value) (w : World) (hT : Tabs w) (hM : MaxC w) (hr : RulesIn w vr rs) (hlr : PartRow w vl l) :
  Calls Tryd.prog 18 #[vr, vl] w fun e w' => e = .returned (.int .i64 (findErr (rs.map (·.1)) l)) ∧ Below w.heap.size w w' := by
 have HQ : RowKit.Hid (∀ x w', findErr (rs.map (·.1)) l = x → Below w.heap.size w w' → (fun (e : Ending) w' => e = .returned (.int .i64 (findErr (rs.map (·.1)) l)) ∧ Below w.heap.size w w') (.returned (.int .i64 x)) w') := Lib.hid fun x w' h hb => ⟨by rw [h], hb⟩
 generalize (fun (e : Ending) w' => e = .returned (.int .i64 (findErr (rs.map (·.1)) l)) ∧ Below w.heap.size w w') = Q at *
 have HF : RowKit.Hid (findErr (rs.map (·.1)) l = if wellB l = false then 8 else if 32 < rs.length then 14 else firstErr (rs.map (·.1))) := Lib.hid (by unfold findErr; rw [List.length_map])
 obtain ⟨ar, cr, rfl, hcr⟩ := hr.shape
 obtain ⟨al, cl, rfl, hcl⟩ := hlr.slice
 have CW := Lib.hid (term_Well l (by omega) _ w hlr)
 have HS := Lib.hid hs
 have HR := Lib.hid hr
 have HT := Lib.hid hT
 have HMX := Lib.hid hM
 clear hr hlr hs hT hM
 go_enter Tryd.func18, Tryd.ntmps18
 go_wp2_with fail
 refine CW.out.mono ?_
 rintro e W1 ⟨rfl, hb1⟩
 have HB1 := Lib.hid hb1
 clear hb1 CW
 cases hw : wellB l with
 | false =>
  have HX := Lib.hid (HQ.out 8 W1 (by rw [HF.out, hw]; rfl) HB1.out)
  clear hw
  go_wp2_with fail
  exact HX.out
 | true =>
 have HW := Lib.hid hw
 clear hw
 by_cases h32 : 32 < rs.length
 ·have HX := Lib.hid (HQ.out 14 W1 (by rw [HF.out, HW.out, if_neg (by simp), if_pos h32]) HB1.out)
  have g1 : (32 : Int) < rs.length := by omega
  go_wp2_with fail
  exact HX.out
 have HFE : RowKit.Hid (findErr (rs.map (·.1)) l = firstErr (rs.map (·.1))) := Lib.hid (by rw [HF.out, HW.out, if_neg (by simp), if_neg h32])
 have h32' : (rs.length : Int) ≤ 32 := by omega
 clear h32
 go_wp2_with fail
 go_loopw [18] (fun iv wr => lcRel rs W1 iv wr) (fun iv _ => rs.length - (intOf iv).toNat)
 case atStart => exact ⟨0, rfl, Nat.zero_le _, rfl, Below.refl _ _⟩
 case round =>
  obtain ⟨k, rfl, hk, hfe, hb⟩ := hrel
  have HB := Lib.hid hb
  have HE := Lib.hid hfe
  clear hb hfe
  by_cases hlt : k < rs.length
  ·obtain ⟨b, off, rfl, _, _, hbl, hcell⟩ := HR.out.at (bthen HB1.out HB.out) (show 0 < rs.length by omega)
   obtain ⟨d0, d1, d2, d3, d4⟩ := hcell k hlt
   have hin := HR.out.E _ (List.getElem_mem hlt)
   have hsm := HS.out _ (List.getElem_mem hlt)
   have HE2 : RowKit.Hid (firstErr (rs.map (·.1)) = if ruleZ (rs[k]).1 = 0 then firstErr ((rs.drop (k + 1)).map (·.1)) else ruleZ (rs[k]).1) := Lib.hid (by
    rw [HE.out, List.drop_eq_getElem_cons hlt, List.map_cons, firstErr])
   generalize rs[k] = x at *
   obtain ⟨r, vh, vf, vb⟩ := x
   simp only [] at d0 d1 d2 d3 d4 hin hsm HE2
   obtain ⟨ah, ch, rfl, hch⟩ := Row.shape hin.H
   obtain ⟨af, cf, rfl, hcf⟩ := hin.F.slice
   obtain ⟨ab, cb, rfl, hcb⟩ := hin.B.slice
   have HBA : RowKit.Hid (Below W1.heap.size W1 (wr.alloc (.cells #[.string r.nm, .int .u8 (r.goal : Int), .slice ah r.holes.length ch, .slice af r.fnd.length cf, .slice ab r.by'.length cb] 43))) := Lib.hid (HB.out.alloc HB.out.size _)
   have CR := Lib.hid (rule_Check r hsm _ _ _ _ (HT.out.below (bthen HB1.out HBA.out)) (HMX.out.below (bthen HB1.out HBA.out)) (hin.below (bthen HB1.out HBA.out)))
   unfold ruleAgg at CR
   clear hcell hin hsm
   go_wp2_with fail
   refine CR.out.mono ?_
   rintro e W3 ⟨rfl, hb3⟩
   have HB3 := Lib.hid (bthen HBA.out hb3)
   clear hb3 CR HBA d0 d1 d2 d3 d4
   by_cases hz : ruleZ r = 0
   ·have HX : RowKit.Hid (lcRel rs W1 (.int .i64 ((k : Int) + 1)) W3) := Lib.hid ⟨k + 1, by push_cast; rfl, hlt, by rw [HE2.out, if_pos hz], HB3.out⟩
    rw [hz]
    clear hz
    go_wp2_with fail
    case roundEnd => exact ⟨HX.out, by simp only [intOf]; omega⟩
   ·have HX := Lib.hid (HQ.out (ruleZ r) W3 (by rw [HFE.out, HE2.out, if_neg hz]) (bthen HB1.out HB3.out))
    have g1 : (ruleZ r != 0) = true := by rw [bne_iff_ne]; exact hz
    have g2 : (ruleZ r == 0) = false := by rw [beq_eq_false_iff_ne]; exact hz
    clear hz
    generalize ruleZ r = z at *
    go_wp2_with fail
    exact HX.out
  ·obtain rfl : k = rs.length := by omega
   have HX := Lib.hid (HQ.out 0 wr (by rw [HFE.out, HE.out, List.drop_length]; rfl) (bthen HB1.out HB.out))
   go_wp2_with fail
   exact HX.out
end Go.Proofs.YtmklemelgdilkaaDoor
namespace Go.Proofs.YtmklemelgdilkaaDoor
set_option linter.all false
attribute [local irreducible] Calls
open Go.RowKit

@[irreducible] def AnyInt (w0 : World) (e : Ending) (w' : World) : Prop := ∃ z : Int, e = .returned (.int .i64 z) ∧ Below w0.heap.size w0 w'
@[irreducible] def AnyBool (w0 : World) (e : Ending) (w' : World) : Prop := ∃ x : Bool, e = .returned (.bool x) ∧ Below w0.heap.size w0 w'
theorem AnyInt.mk {w0 w' : World} (z : Int) (h : Below w0.heap.size w0 w') : AnyInt w0 (.returned (.int .i64 z)) w' := by unfold AnyInt; exact ⟨z, rfl, h⟩
theorem AnyBool.mk {w0 w' : World} (x : Bool) (h : Below w0.heap.size w0 w') : AnyBool w0 (.returned (.bool x)) w' := by unfold AnyBool; exact ⟨x, rfl, h⟩
theorem AnyInt.out {w0 w' : World} {e : Ending} (h : AnyInt w0 e w') : ∃ z : Int, e = .returned (.int .i64 z) ∧ Below w0.heap.size w0 w' := by unfold AnyInt at h; exact h
theorem AnyBool.out {w0 w' : World} {e : Ending} (h : AnyBool w0 e w') : ∃ x : Bool, e = .returned (.bool x) ∧ Below w0.heap.size w0 w' := by unfold AnyBool at h; exact h
end Go.Proofs.YtmklemelgdilkaaDoor
namespace Go.Proofs.YtmklemelgdilkaaDoor
set_option linter.all false
attribute [local irreducible] Calls
open Go.RowKit

end Go.Proofs.YtmklemelgdilkaaDoor
namespace Go.Proofs.YtmklemelgdilkaaDoor
set_option linter.all false
open Go.RowKit

structure HeldM (w : World) : Prop where
 T : Tabs w
 M : MaxC w
theorem HeldM.below {w w' : World} (h : HeldM w) (hb : Below w.heap.size w w') : HeldM w' := ⟨h.T.below hb, h.M.below hb⟩
@[irreducible] def AnswersM (w : World) (e : Ending) (w' : World) : Prop := e = .returned (.bool true) ∧ Below w.heap.size w w'
theorem AnswersM.mk {w w' : World} (h : Below w.heap.size w w') : AnswersM w (.returned (.bool true)) w' := by unfold AnswersM; exact ⟨rfl, h⟩
theorem AnswersM.out {w w' : World} {e : Ending} (h : AnswersM w e w') : e = .returned (.bool true) ∧ Below w.heap.size w w' := by unfold AnswersM at h; exact h
end Go.Proofs.YtmklemelgdilkaaDoor
