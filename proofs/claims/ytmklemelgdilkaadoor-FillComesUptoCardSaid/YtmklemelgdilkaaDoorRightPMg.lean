/- Layer 20 in plain Lean: may binds be, hole by hole. -/
import Derived.Test.YtmklemelgdilkaaDoorStepPMg
import Derived.Test.YtmklemelgdilkaaDoorRuleCheckMg
import Derived.Test.YtmklemelgdilkaaDoorTermMg
import Derived.Test.YtmklemelgdilkaaDoorMapSMg
import Derived.Test.YtmklemelgdilkaaDoorRulePMg
import Derived.BigQuiet
import Derived.Deep.QuietTactic
namespace Go.Proofs.YtmklemelgdilkaaDoor
set_option linter.all false

theorem right_len {r : RuleM} {l : List Prt} {bs : List Bnd} (h : bs.length ≠ r.holes.length) : rightB r l bs = false := by
 cases e : rightB r l bs with
 | false => rfl
 | true => exact absurd (rightB_iff.1 e).1 h
theorem right_no {r : RuleM} {l : List Prt} {bs : List Bnd} {n : Nat} (hh : n < r.holes.length) (hb : n < bs.length) (h : okB l r.holes[n] bs[n] = false) : rightB r l bs = false := by
 cases e : rightB r l bs with
 | false => rfl
 | true =>
  have := (rightB_iff.1 e).2 n hh hb
  rw [h] at this
  cases this
def RightTo (r : RuleM) (l : List Prt) (bs : List Bnd) (n : Nat) : Prop := ∀ i (hh : i < r.holes.length) (hb : i < bs.length), i < n → okB l r.holes[i] bs[i] = true
theorem right_yes {r : RuleM} {l : List Prt} {bs : List Bnd} (hl : bs.length = r.holes.length) (h : RightTo r l bs bs.length) : rightB r l bs = true := rightB_iff.2 ⟨hl, fun i hh hb => h i hh hb hb⟩
theorem RightTo.next {r : RuleM} {l : List Prt} {bs : List Bnd} {n : Nat} (h : RightTo r l bs n) (hk : ∀ (hh : n < r.holes.length) (hb : n < bs.length), okB l r.holes[n] bs[n] = true) : RightTo r l bs (n + 1) := fun i hh hb hi => by
 by_cases e : i = n
 ·subst e; exact hk hh hb
 ·exact h i hh hb (by omega)
section
variable {l : List Prt} {h : Hl} {b : Bnd}
theorem okB_name (e : b.1 ≠ h.1) : okB l h b = false := by unfold okB; rw [decide_eq_false e]; rfl
theorem okB_rng (e : ¬ (0 ≤ b.2.1 ∧ b.2.1 ≤ b.2.2 ∧ b.2.2 ≤ l.length)) : okB l h b = false := by unfold okB; rw [decide_eq_false e]; simp
theorem okB_trees (e : treesZ (piece l b.2.1.toNat b.2.2.toNat) < 0) : okB l h b = false := by unfold okB; rw [decide_eq_false (show ¬ 0 ≤ treesZ (piece l b.2.1.toNat b.2.2.toNat) by omega)]; simp
theorem okB_one (hs : isSev h.2 = false) (e : treesZ (piece l b.2.1.toNat b.2.2.toNat) ≠ 1) : okB l h b = false := by unfold okB; rw [hs, decide_eq_false e]; simp
theorem okB_may (hs : isSev h.2 = false) (e : mayB h.2 (kindAt l b.2.1.toNat) = false) : okB l h b = false := by unfold okB; rw [hs, e]; simp
theorem okB_yes (e1 : b.1 = h.1) (e2 : 0 ≤ b.2.1 ∧ b.2.1 ≤ b.2.2 ∧ b.2.2 ≤ l.length) (e3 : 0 ≤ treesZ (piece l b.2.1.toNat b.2.2.toNat)) (e4 : isSev h.2 = false → treesZ (piece l b.2.1.toNat b.2.2.toNat) = 1 ∧ mayB h.2 (kindAt l b.2.1.toNat) = true) : okB l h b = true := by
 unfold okB
 rw [decide_eq_true e1, decide_eq_true e2, decide_eq_true e3]
 cases hs : isSev h.2 with
 | true => rfl
 | false =>
  obtain ⟨e5, e6⟩ := e4 hs
  rw [decide_eq_true e5, e6]; rfl
end
end Go.Proofs.YtmklemelgdilkaaDoor
namespace Go.Proofs.YtmklemelgdilkaaDoor
set_option linter.all false
attribute [local irreducible] Calls
open Go.RowKit

def lcRel (rs : List RuleX) (w0 : World) (iv : Value) (wr : World) : Prop := ∃ k : Nat, iv = .int .i64 (k : Int) ∧ k ≤ rs.length ∧ firstErr (rs.map (·.1)) = firstErr ((rs.drop k).map (·.1)) ∧ Below w0.heap.size w0 wr
set_option maxRecDepth 100000 in
set_option maxHeartbeats 8000000 in
theorem fill_check (rs : List RuleX) (hs : ∀ x ∈ rs, SmallR x.1) (l : List Prt) (hl : l.length ≤ 1048576) (vr vl : Value) (w : World) (hT : Tabs w) (hM : MaxC w) (hr : RulesIn w vr rs) (hlr : PartRow w vl l) :
  Calls Tryd.prog 18 #[vr, vl] w fun e w' => e = .returned (.int .i64 (findErr (rs.map (·.1)) l)) ∧ Below w.heap.size w w' := by
 have HQ : RowKit.Hid (∀ x w', findErr (rs.map (·.1)) l = x → Below w.heap.size w w' → (fun (e : Ending) w' => e = .returned (.int .i64 (findErr (rs.map (·.1)) l)) ∧ Below w.heap.size w w') (.returned (.int .i64 x)) w') := Lib.hid fun x w' h hb => ⟨by rw [h], hb⟩
 generalize (fun (e : Ending) w' => e = .returned (.int .i64 (findErr (rs.map (·.1)) l)) ∧ Below w.heap.size w w') = Q at *
 have HF : RowKit.Hid (findErr (rs.map (·.1)) l = if wellB l = false then 8 else if 32 < rs.length then 14 else firstErr (rs.map (·.1))) := Lib.hid (by unfold findErr; rw [List.length_map])
 obtain ⟨ar, cr, rfl, hcr⟩ := hr.shape
 obtain ⟨al, cl, rfl, hcl⟩ := hlr.slice
 have CW := Lib.hid (term_Well l (by omega) _ w hlr)
 have HS := Lib.hid hs
 have HR := Lib.hid hr
 have HT := Lib.hid hT
 have HMX := Lib.hid hM
 clear hr hlr hs hT hM
 go_enter Tryd.func18, Tryd.ntmps18
 go_wp2_with fail
 refine CW.out.mono ?_
 rintro e W1 ⟨rfl, hb1⟩
 have HB1 := Lib.hid hb1
 clear hb1 CW
 cases hw : wellB l with
 | false =>
  have HX := Lib.hid (HQ.out 8 W1 (by rw [HF.out, hw]; rfl) HB1.out)
  clear hw
  go_wp2_with fail
  exact HX.out
 | true =>
 have HW := Lib.hid hw
 clear hw
 by_cases h32 : 32 < rs.length
 ·have HX := Lib.hid (HQ.out 14 W1 (by rw [HF.out, HW.out, if_neg (by simp), if_pos h32]) HB1.out)
  have g1 : (32 : Int) < rs.length := by omega
  go_wp2_with fail
  exact HX.out
 have HFE : RowKit.Hid (findErr (rs.map (·.1)) l = firstErr (rs.map (·.1))) := Lib.hid (by rw [HF.out, HW.out, if_neg (by simp), if_neg h32])
 have h32' : (rs.length : Int) ≤ 32 := by omega
 clear h32
 go_wp2_with fail
 go_loopw [18] (fun iv wr => lcRel rs W1 iv wr) (fun iv _ => rs.length - (intOf iv).toNat)
 case atStart => exact ⟨0, rfl, Nat.zero_le _, rfl, Below.refl _ _⟩
 case round =>
  obtain ⟨k, rfl, hk, hfe, hb⟩ := hrel
  have HB := Lib.hid hb
  have HE := Lib.hid hfe
  clear hb hfe
  by_cases hlt : k < rs.length
  ·obtain ⟨b, off, rfl, _, _, hbl, hcell⟩ := HR.out.at (bthen HB1.out HB.out) (show 0 < rs.length by omega)
   obtain ⟨d0, d1, d2, d3, d4⟩ := hcell k hlt
   have hin := HR.out.E _ (List.getElem_mem hlt)
   have hsm := HS.out _ (List.getElem_mem hlt)
   have HE2 : RowKit.Hid (firstErr (rs.map (·.1)) = if ruleZ (rs[k]).1 = 0 then firstErr ((rs.drop (k + 1)).map (·.1)) else ruleZ (rs[k]).1) := Lib.hid (by
    rw [HE.out, List.drop_eq_getElem_cons hlt, List.map_cons, firstErr])
   generalize rs[k] = x at *
   obtain ⟨r, vh, vf, vb⟩ := x
   simp only [] at d0 d1 d2 d3 d4 hin hsm HE2
   obtain ⟨ah, ch, rfl, hch⟩ := Row.shape hin.H
   obtain ⟨af, cf, rfl, hcf⟩ := hin.F.slice
   obtain ⟨ab, cb, rfl, hcb⟩ := hin.B.slice
   have HBA : RowKit.Hid (Below W1.heap.size W1 (wr.alloc (.cells #[.string r.nm, .int .u8 (r.goal : Int), .slice ah r.holes.length ch, .slice af r.fnd.length cf, .slice ab r.by'.length cb] 43))) := Lib.hid (HB.out.alloc HB.out.size _)
   have CR := Lib.hid (rule_Check r hsm _ _ _ _ (HT.out.below (bthen HB1.out HBA.out)) (HMX.out.below (bthen HB1.out HBA.out)) (hin.below (bthen HB1.out HBA.out)))
   unfold ruleAgg at CR
   clear hcell hin hsm
   go_wp2_with fail
   refine CR.out.mono ?_
   rintro e W3 ⟨rfl, hb3⟩
   have HB3 := Lib.hid (bthen HBA.out hb3)
   clear hb3 CR HBA d0 d1 d2 d3 d4
   by_cases hz : ruleZ r = 0
   ·have HX : RowKit.Hid (lcRel rs W1 (.int .i64 ((k : Int) + 1)) W3) := Lib.hid ⟨k + 1, by push_cast; rfl, hlt, by rw [HE2.out, if_pos hz], HB3.out⟩
    rw [hz]
    clear hz
    go_wp2_with fail
    case roundEnd => exact ⟨HX.out, by simp only [intOf]; omega⟩
   ·have HX := Lib.hid (HQ.out (ruleZ r) W3 (by rw [HFE.out, HE2.out, if_neg hz]) (bthen HB1.out HB3.out))
    have g1 : (ruleZ r != 0) = true := by rw [bne_iff_ne]; exact hz
    have g2 : (ruleZ r == 0) = false := by rw [beq_eq_false_iff_ne]; exact hz
    clear hz
    generalize ruleZ r = z at *
    go_wp2_with fail
    exact HX.out
  ·obtain rfl : k = rs.length := by omega
   have HX := Lib.hid (HQ.out 0 wr (by rw [HFE.out, HE.out, List.drop_length]; rfl) (bthen HB1.out HB.out))
   go_wp2_with fail
   exact HX.out
end Go.Proofs.YtmklemelgdilkaaDoor
namespace Go.Proofs.YtmklemelgdilkaaDoor
set_option linter.all false
attribute [local irreducible] Calls
open Go.RowKit

@[irreducible] def AnyInt (w0 : World) (e : Ending) (w' : World) : Prop := ∃ z : Int, e = .returned (.int .i64 z) ∧ Below w0.heap.size w0 w'
@[irreducible] def AnyBool (w0 : World) (e : Ending) (w' : World) : Prop := ∃ x : Bool, e = .returned (.bool x) ∧ Below w0.heap.size w0 w'
theorem AnyInt.mk {w0 w' : World} (z : Int) (h : Below w0.heap.size w0 w') : AnyInt w0 (.returned (.int .i64 z)) w' := by unfold AnyInt; exact ⟨z, rfl, h⟩
theorem AnyBool.mk {w0 w' : World} (x : Bool) (h : Below w0.heap.size w0 w') : AnyBool w0 (.returned (.bool x)) w' := by unfold AnyBool; exact ⟨x, rfl, h⟩
theorem AnyInt.out {w0 w' : World} {e : Ending} (h : AnyInt w0 e w') : ∃ z : Int, e = .returned (.int .i64 z) ∧ Below w0.heap.size w0 w' := by unfold AnyInt at h; exact h
theorem AnyBool.out {w0 w' : World} {e : Ending} (h : AnyBool w0 e w') : ∃ x : Bool, e = .returned (.bool x) ∧ Below w0.heap.size w0 w' := by unfold AnyBool at h; exact h
end Go.Proofs.YtmklemelgdilkaaDoor
namespace Go.Proofs.YtmklemelgdilkaaDoor
set_option linter.all false
attribute [local irreducible] Calls
open Go.RowKit

def grRel (n : Nat) (W0 : World) (nv iv : Value) (wr : World) : Prop := ∃ (k : Nat) (z : Int), iv = .int .i64 (k : Int) ∧ nv = .int .i64 z ∧ k ≤ n ∧ Below W0.heap.size W0 wr
set_option maxRecDepth 100000 in
set_option maxHeartbeats 16000000 in
theorem ref_Great (rs : List RuleX) (hs : ∀ x ∈ rs, SmallR x.1) (hn : rs.length ≤ 1048576) (vr : Value) (most : Int) (w : World) (hr : RulesIn w vr rs) :
  Calls Tryd.prog 16 #[vr, .int .i64 most] w (AnyBool w) := by
 obtain ⟨ar, cr, rfl, hcr⟩ := hr.shape
 have HQ : RowKit.Hid (∀ z w', Below w.heap.size w w' → AnyBool w (.returned (.bool z)) w') := Lib.hid fun z w' hb => AnyBool.mk z hb
 generalize AnyBool w = Q at *
 have HS := Lib.hid hs
 have HR := Lib.hid hr
 clear hr hs
 go_enter Tryd.func16, Tryd.ntmps16
 go_wp2_with fail
 go_loopw [5, 6] (fun nv iv wr => grRel rs.length w nv iv wr) (fun _ iv _ => rs.length - (intOf iv).toNat)
 case atStart => exact ⟨0, 0, rfl, rfl, Nat.zero_le _, Below.refl _ _⟩
 case round =>
  obtain ⟨k, z, rfl, rfl, hk, hb⟩ := hrel
  have HB := Lib.hid hb
  clear hb
  by_cases hlt : k < rs.length
  case neg =>
   obtain rfl : k = rs.length := by omega
   have HX := Lib.hid (fun x => HQ.out x wr HB.out)
   go_wp2_with fail
   exact HX.out _
  by_cases hz : z ≤ most
  case neg =>
   have hkl : (k : Int) < rs.length := by omega
   have HX := Lib.hid (fun x => HQ.out x wr HB.out)
   go_wp2_with fail
   exact HX.out _
  have hk0 : (0 : Int) ≤ (k : Int) := by omega
  have hkl : (k : Int) < rs.length := by omega
  have hkc : (k : Int) < cr := by omega
  have hin := HR.out.E _ (List.getElem_mem hlt)
  have hsm := HS.out _ (List.getElem_mem hlt)
  obtain ⟨b, off, rfl, _, _, hbl, hcell⟩ := HR.out.at HB.out (show 0 < rs.length by omega)
  have hc := hcell k hlt
  have HC : RowKit.Hid (∀ W, Below w.heap.size w W → W.cell? ⟨b, off + k * 5, none⟩ = some (.string (rs[k]).1.nm) ∧ W.cell? ⟨b, off + k * 5 + 2, none⟩ = some (rs[k]).2.1 ∧ W.cell? ⟨b, off + k * 5 + 3, none⟩ = some (rs[k]).2.2.1 ∧ W.cell? ⟨b, off + k * 5 + 4, none⟩ = some (rs[k]).2.2.2) := Lib.hid fun W hW => by
   obtain ⟨b', off', e, _, _, _, hc2⟩ := HR.out.at hW (show 0 < rs.length by omega)
   cases e
   obtain ⟨c0, _, c2, c3, c4⟩ := hc2 k hlt
   exact ⟨c0, c2, c3, c4⟩
  clear hcell hc
  generalize rs[k] = x at *
  obtain ⟨r, vh, vf, vb⟩ := x
  simp only [] at hin hsm HC
  obtain ⟨ah, ch, rfl, hch⟩ := Row.shape hin.H
  obtain ⟨af, cf, rfl, hcf⟩ := hin.F.slice
  obtain ⟨ab, cb, rfl, hcb⟩ := hin.B.slice
  have HIN := Lib.hid hin
  have HSM := Lib.hid hsm
  have hlh := hsm.h.1
  have hlf := hsm.f.1
  have hlb := hsm.b.1
  have hln := hsm.n
  clear hin hsm
  obtain ⟨c0, c2, c3, c4⟩ := HC.out _ HB.out
  go_upto_region 5 with (fail)
  go_quiet (fail)
  have HB1 := Lib.hid (drewB HB.out nq)
  clear c0 c2 c3 c4
  generalize wr.drewN nq = w1 at *
  go_wp2_with fail
  go_loopw [5, 7] (fun nv iv wr => grRel r.holes.length w nv iv wr) (fun _ iv _ => r.holes.length - (intOf iv).toNat)
  case atStart => exact ⟨0, _, rfl, rfl, Nat.zero_le _, HB1.out⟩
  case round =>
   obtain ⟨j1, z1, rfl, rfl, hj1, hb1⟩ := hrel
   have HBX := Lib.hid hb1
   clear hb1
   obtain ⟨c0, c2, c3, c4⟩ := HC.out _ HBX.out
   by_cases hlt1 : j1 < r.holes.length
   ·by_cases hzz : z1 ≤ most
    ·have hq0 : (0 : Int) ≤ (j1 : Int) := by omega
     have hql : (j1 : Int) < r.holes.length := by omega
     have hqc : (j1 : Int) < ch := by omega
     obtain ⟨b1, o1, rfl, _, _, _, hcc⟩ := HIN.out.H.at HBX.out (show 0 < r.holes.length by omega)
     have hd := hcc j1 hlt1
     have hsz := HSM.out.h.2 _ (List.getElem_mem hlt1)
     generalize (r.holes[j1]) = y at *
     obtain ⟨yn, yk⟩ := y
     simp only [] at hd hsz
     obtain ⟨d0, d1⟩ := hd
     obtain ⟨s0, s1⟩ := hsz
     clear hcc
     go_wp2_with fail
     all_goals exact ⟨⟨j1 + 1, _, by push_cast; rfl, rfl, hlt1, HBX.out⟩, by simp only [intOf]; omega⟩
    ·have hql : (j1 : Int) < r.holes.length := by omega
     go_wp2_with fail
     go_loopw [5, 8] (fun nv iv wr => grRel r.fnd.length w nv iv wr) (fun _ iv _ => r.fnd.length - (intOf iv).toNat)
     case atStart => exact ⟨0, _, rfl, rfl, Nat.zero_le _, HBX.out⟩
     case round =>
      obtain ⟨j2, z2, rfl, rfl, hj2, hb2⟩ := hrel
      have HBX := Lib.hid hb2
      clear hb2
      obtain ⟨c0, c2, c3, c4⟩ := HC.out _ HBX.out
      by_cases hlt2 : j2 < r.fnd.length
      ·by_cases hzz : z2 ≤ most
       ·have hq0 : (0 : Int) ≤ (j2 : Int) := by omega
        have hql : (j2 : Int) < r.fnd.length := by omega
        have hqc : (j2 : Int) < cf := by omega
        obtain ⟨b2, o2, rfl, _, _, _, hcc⟩ := HIN.out.F.at HBX.out (show 0 < r.fnd.length by omega)
        have hd := hcc j2 hlt2
        have hsz := HSM.out.f.2 _ (List.getElem_mem hlt2)
        generalize (r.fnd[j2]) = y at *
        obtain ⟨yk, yn, yw⟩ := y
        simp only [] at hd hsz
        obtain ⟨d0, d1, d2⟩ := hd
        obtain ⟨s0, s1⟩ := hsz
        clear hcc
        go_wp2_with fail
        all_goals exact ⟨⟨j2 + 1, _, by push_cast; rfl, rfl, hlt2, HBX.out⟩, by simp only [intOf]; omega⟩
       ·have hql : (j2 : Int) < r.fnd.length := by omega
        go_wp2_with fail
        go_loopw [5, 9] (fun nv iv wr => grRel r.by'.length w nv iv wr) (fun _ iv _ => r.by'.length - (intOf iv).toNat)
        case atStart => exact ⟨0, _, rfl, rfl, Nat.zero_le _, HBX.out⟩
        case round =>
         obtain ⟨j3, z3, rfl, rfl, hj3, hb3⟩ := hrel
         have HBX := Lib.hid hb3
         clear hb3
         obtain ⟨c0, c2, c3, c4⟩ := HC.out _ HBX.out
         by_cases hlt3 : j3 < r.by'.length
         ·by_cases hzz : z3 ≤ most
          ·have hq0 : (0 : Int) ≤ (j3 : Int) := by omega
           have hql : (j3 : Int) < r.by'.length := by omega
           have hqc : (j3 : Int) < cb := by omega
           obtain ⟨b3, o3, rfl, _, _, _, hcc⟩ := HIN.out.B.at HBX.out (show 0 < r.by'.length by omega)
           have hd := hcc j3 hlt3
           have hsz := HSM.out.b.2 _ (List.getElem_mem hlt3)
           generalize (r.by'[j3]) = y at *
           obtain ⟨yk, yn, yw⟩ := y
           simp only [] at hd hsz
           obtain ⟨d0, d1, d2⟩ := hd
           obtain ⟨s0, s1⟩ := hsz
           clear hcc
           go_wp2_with fail
           all_goals exact ⟨⟨j3 + 1, _, by push_cast; rfl, rfl, hlt3, HBX.out⟩, by simp only [intOf]; omega⟩
          ·have hql : (j3 : Int) < r.by'.length := by omega
           go_wp2_with fail
           exact ⟨⟨k + 1, _, by push_cast; rfl, rfl, hlt, HBX.out⟩, by simp only [intOf]; omega⟩
         ·obtain rfl : j3 = r.by'.length := by omega
          go_wp2_with fail
          exact ⟨⟨k + 1, _, by push_cast; rfl, rfl, hlt, HBX.out⟩, by simp only [intOf]; omega⟩
      ·obtain rfl : j2 = r.fnd.length := by omega
       go_wp2_with fail
       go_loopw [5, 9] (fun nv iv wr => grRel r.by'.length w nv iv wr) (fun _ iv _ => r.by'.length - (intOf iv).toNat)
       case atStart => exact ⟨0, _, rfl, rfl, Nat.zero_le _, HBX.out⟩
       case round =>
        obtain ⟨j3, z3, rfl, rfl, hj3, hb3⟩ := hrel
        have HBX := Lib.hid hb3
        clear hb3
        obtain ⟨c0, c2, c3, c4⟩ := HC.out _ HBX.out
        by_cases hlt3 : j3 < r.by'.length
        ·by_cases hzz : z3 ≤ most
         ·have hq0 : (0 : Int) ≤ (j3 : Int) := by omega
          have hql : (j3 : Int) < r.by'.length := by omega
          have hqc : (j3 : Int) < cb := by omega
          obtain ⟨b3, o3, rfl, _, _, _, hcc⟩ := HIN.out.B.at HBX.out (show 0 < r.by'.length by omega)
          have hd := hcc j3 hlt3
          have hsz := HSM.out.b.2 _ (List.getElem_mem hlt3)
          generalize (r.by'[j3]) = y at *
          obtain ⟨yk, yn, yw⟩ := y
          simp only [] at hd hsz
          obtain ⟨d0, d1, d2⟩ := hd
          obtain ⟨s0, s1⟩ := hsz
          clear hcc
          go_wp2_with fail
          all_goals exact ⟨⟨j3 + 1, _, by push_cast; rfl, rfl, hlt3, HBX.out⟩, by simp only [intOf]; omega⟩
         ·have hql : (j3 : Int) < r.by'.length := by omega
          go_wp2_with fail
          exact ⟨⟨k + 1, _, by push_cast; rfl, rfl, hlt, HBX.out⟩, by simp only [intOf]; omega⟩
        ·obtain rfl : j3 = r.by'.length := by omega
         go_wp2_with fail
         exact ⟨⟨k + 1, _, by push_cast; rfl, rfl, hlt, HBX.out⟩, by simp only [intOf]; omega⟩
   ·obtain rfl : j1 = r.holes.length := by omega
    go_wp2_with fail
    go_loopw [5, 8] (fun nv iv wr => grRel r.fnd.length w nv iv wr) (fun _ iv _ => r.fnd.length - (intOf iv).toNat)
    case atStart => exact ⟨0, _, rfl, rfl, Nat.zero_le _, HBX.out⟩
    case round =>
     obtain ⟨j2, z2, rfl, rfl, hj2, hb2⟩ := hrel
     have HBX := Lib.hid hb2
     clear hb2
     obtain ⟨c0, c2, c3, c4⟩ := HC.out _ HBX.out
     by_cases hlt2 : j2 < r.fnd.length
     ·by_cases hzz : z2 ≤ most
      ·have hq0 : (0 : Int) ≤ (j2 : Int) := by omega
       have hql : (j2 : Int) < r.fnd.length := by omega
       have hqc : (j2 : Int) < cf := by omega
       obtain ⟨b2, o2, rfl, _, _, _, hcc⟩ := HIN.out.F.at HBX.out (show 0 < r.fnd.length by omega)
       have hd := hcc j2 hlt2
       have hsz := HSM.out.f.2 _ (List.getElem_mem hlt2)
       generalize (r.fnd[j2]) = y at *
       obtain ⟨yk, yn, yw⟩ := y
       simp only [] at hd hsz
       obtain ⟨d0, d1, d2⟩ := hd
       obtain ⟨s0, s1⟩ := hsz
       clear hcc
       go_wp2_with fail
       all_goals exact ⟨⟨j2 + 1, _, by push_cast; rfl, rfl, hlt2, HBX.out⟩, by simp only [intOf]; omega⟩
      ·have hql : (j2 : Int) < r.fnd.length := by omega
       go_wp2_with fail
       go_loopw [5, 9] (fun nv iv wr => grRel r.by'.length w nv iv wr) (fun _ iv _ => r.by'.length - (intOf iv).toNat)
       case atStart => exact ⟨0, _, rfl, rfl, Nat.zero_le _, HBX.out⟩
       case round =>
        obtain ⟨j3, z3, rfl, rfl, hj3, hb3⟩ := hrel
        have HBX := Lib.hid hb3
        clear hb3
        obtain ⟨c0, c2, c3, c4⟩ := HC.out _ HBX.out
        by_cases hlt3 : j3 < r.by'.length
        ·by_cases hzz : z3 ≤ most
         ·have hq0 : (0 : Int) ≤ (j3 : Int) := by omega
          have hql : (j3 : Int) < r.by'.length := by omega
          have hqc : (j3 : Int) < cb := by omega
          obtain ⟨b3, o3, rfl, _, _, _, hcc⟩ := HIN.out.B.at HBX.out (show 0 < r.by'.length by omega)
          have hd := hcc j3 hlt3
          have hsz := HSM.out.b.2 _ (List.getElem_mem hlt3)
          generalize (r.by'[j3]) = y at *
          obtain ⟨yk, yn, yw⟩ := y
          simp only [] at hd hsz
          obtain ⟨d0, d1, d2⟩ := hd
          obtain ⟨s0, s1⟩ := hsz
          clear hcc
          go_wp2_with fail
          all_goals exact ⟨⟨j3 + 1, _, by push_cast; rfl, rfl, hlt3, HBX.out⟩, by simp only [intOf]; omega⟩
         ·have hql : (j3 : Int) < r.by'.length := by omega
          go_wp2_with fail
          exact ⟨⟨k + 1, _, by push_cast; rfl, rfl, hlt, HBX.out⟩, by simp only [intOf]; omega⟩
        ·obtain rfl : j3 = r.by'.length := by omega
         go_wp2_with fail
         exact ⟨⟨k + 1, _, by push_cast; rfl, rfl, hlt, HBX.out⟩, by simp only [intOf]; omega⟩
     ·obtain rfl : j2 = r.fnd.length := by omega
      go_wp2_with fail
      go_loopw [5, 9] (fun nv iv wr => grRel r.by'.length w nv iv wr) (fun _ iv _ => r.by'.length - (intOf iv).toNat)
      case atStart => exact ⟨0, _, rfl, rfl, Nat.zero_le _, HBX.out⟩
      case round =>
       obtain ⟨j3, z3, rfl, rfl, hj3, hb3⟩ := hrel
       have HBX := Lib.hid hb3
       clear hb3
       obtain ⟨c0, c2, c3, c4⟩ := HC.out _ HBX.out
       by_cases hlt3 : j3 < r.by'.length
       ·by_cases hzz : z3 ≤ most
        ·have hq0 : (0 : Int) ≤ (j3 : Int) := by omega
         have hql : (j3 : Int) < r.by'.length := by omega
         have hqc : (j3 : Int) < cb := by omega
         obtain ⟨b3, o3, rfl, _, _, _, hcc⟩ := HIN.out.B.at HBX.out (show 0 < r.by'.length by omega)
         have hd := hcc j3 hlt3
         have hsz := HSM.out.b.2 _ (List.getElem_mem hlt3)
         generalize (r.by'[j3]) = y at *
         obtain ⟨yk, yn, yw⟩ := y
         simp only [] at hd hsz
         obtain ⟨d0, d1, d2⟩ := hd
         obtain ⟨s0, s1⟩ := hsz
         clear hcc
         go_wp2_with fail
         all_goals exact ⟨⟨j3 + 1, _, by push_cast; rfl, rfl, hlt3, HBX.out⟩, by simp only [intOf]; omega⟩
        ·have hql : (j3 : Int) < r.by'.length := by omega
         go_wp2_with fail
         exact ⟨⟨k + 1, _, by push_cast; rfl, rfl, hlt, HBX.out⟩, by simp only [intOf]; omega⟩
       ·obtain rfl : j3 = r.by'.length := by omega
        go_wp2_with fail
        exact ⟨⟨k + 1, _, by push_cast; rfl, rfl, hlt, HBX.out⟩, by simp only [intOf]; omega⟩
end Go.Proofs.YtmklemelgdilkaaDoor
