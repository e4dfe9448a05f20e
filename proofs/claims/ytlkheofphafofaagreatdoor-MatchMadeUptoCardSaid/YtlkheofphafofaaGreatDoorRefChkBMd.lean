/- Layer 16, the reference: Check, walked. -/
import Derived.Test.YtlkheofphafofaaGreatDoorRefChkAMd
import Derived.Test.YtlkheofphafofaaGreatDoorRefMAMd
import Derived.Test.YtlkheofphafofaaGreatDoorCheckCMd
import Derived.Test.YtlkheofphafofaaGreatDoorRuleCMd
import Derived.Test.YtlkheofphafofaaGreatDoorMapUMd
import Derived.Test.YtlkheofphafofaaGreatDoorAppEqMd
import Derived.Test.YtlkheofphafofaaGreatDoorTermSameMd
import Derived.Test.YtlkheofphafofaaGreatDoorRuleVMd
import Derived.Test.YtlkheofphafofaaGreatDoorSwapPMd
namespace Go.Proofs.YtlkheofphafofaaGreatDoor
set_option linter.all false
attribute [local irreducible] Calls
attribute [local irreducible] wpStill
open Go.RowKit

def rcIn (r : RuleM) (k : Nat) (w0 : World) (iv : Value) (wr : World) : Prop := ∃ j : Nat, iv = .int .i64 (j : Int) ∧ j ≤ k ∧ (∀ i (hi : i < r.holes.length), i < j → (r.holes[i]).1 ≠ ((r.holes[k]?).getD (⟨#[]⟩, 0)).1) ∧ Below w0.heap.size w0 wr
def rcOut (r : RuleM) (w0 : World) (iv : Value) (wr : World) : Prop := ∃ k : Nat, iv = .int .i64 (k : Int) ∧ k ≤ r.holes.length ∧ (∀ i, i < k → holeB r i = true) ∧ Below w0.heap.size w0 wr
theorem dup_no {r : RuleM} {k : Nat} {s : ByteArray} (h : ∀ i (hi : i < r.holes.length), i < k → (r.holes[i]).1 ≠ s) : dupB r k s = false := by
 unfold dupB
 rw [List.any_eq_false]
 intro x hx
 obtain ⟨i, hi, rfl⟩ := List.mem_iff_getElem.1 hx
 rw [List.length_take] at hi
 rw [List.getElem_take]
 have := h i (by omega) (by omega)
 simpa using this
theorem dup_yes {r : RuleM} {k i : Nat} {s : ByteArray} (hi : i < r.holes.length) (hik : i < k) (e : (r.holes[i]).1 = s) : dupB r k s = true := by
 unfold dupB
 rw [List.any_eq_true]
 refine ⟨r.holes[i], ?_, by simpa using e⟩
 rw [List.mem_iff_getElem]
 exact ⟨i, by rw [List.length_take]; omega, by rw [List.getElem_take]⟩
set_option maxRecDepth 100000 in
set_option maxHeartbeats 16000000 in
theorem ref_Check16 (r : RuleM) (hs : SmallR r) (vh vf vb : Value) (w : World) (hr : RuleIn w r vh vf vb) :
  Calls Tryz.prog 19 #[ruleAgg r vh vf vb] w fun e w' => e = .returned (.int .i64 (ruleZ r)) ∧ Below w.heap.size w w' := by
 have HQ : RowKit.Hid (∀ x w', ruleZ r = x → Below w.heap.size w w' → (fun (e : Ending) w' => e = .returned (.int .i64 (ruleZ r)) ∧ Below w.heap.size w w') (.returned (.int .i64 x)) w') := Lib.hid fun x w' h hb => ⟨by rw [h], hb⟩
 generalize (fun (e : Ending) w' => e = .returned (.int .i64 (ruleZ r)) ∧ Below w.heap.size w w') = Q at *
 have HS := Lib.hid hs
 obtain ⟨ah, ch, rfl, hch⟩ := Row.shape hr.H
 obtain ⟨af, cf, rfl, hcf⟩ := hr.F.slice
 obtain ⟨ab, cb, rfl, hcb⟩ := hr.B.slice
 have HR := Lib.hid hr
 have HTOP : RowKit.Hid (ruleTop r = (name r.nm && (decide (1 ≤ r.goal ∧ r.goal ≤ 3) && (checkB r.fnd && (checkB r.by' && !(decide (r.goal = 3) && decide (kindAt r.by' 0 ≠ 13))))))) := Lib.hid rfl
 have HR1 : RowKit.Hid (RK (w.alloc (.cells #[.string r.nm, .int .u8 (r.goal : Int), .slice ah r.holes.length ch, .slice af r.fnd.length cf, .slice ab r.by'.length cb] 25)) w.heap.size r.nm r.goal (.slice ah r.holes.length ch) (.slice af r.fnd.length cf) (.slice ab r.by'.length cb)) := Lib.hid (heap_alloc_new _ _)
 have HB1 : RowKit.Hid (Below w.heap.size w (w.alloc (.cells #[.string r.nm, .int .u8 (r.goal : Int), .slice ah r.holes.length ch, .slice af r.fnd.length cf, .slice ab r.by'.length cb] 25))) := Lib.hid ((Below.refl _ _).alloc (Nat.le_refl _) _)
 have hhl := hs.h.1
 have hgl := hs.g
 have hnl := hs.n
 clear hr hs
 unfold ruleAgg
 obtain ⟨e0, e1, e2, e3, e4⟩ := HR1.out.cells
 go_enter Tryz.func19, Tryz.ntmps19
 go_wp2_with fail
 generalize w.alloc (.cells #[.string r.nm, .int .u8 (r.goal : Int), .slice ah r.holes.length ch, .slice af r.fnd.length cf, .slice ab r.by'.length cb] 25) = W1 at *
 have C1 := Lib.hid (ref_Name r.nm W1 (by omega))
 go_wp2_with fail
 refine C1.out.mono ?_
 rintro e w2 ⟨rfl, hb2⟩
 have HR2 := Lib.hid (HR1.out.below hb2)
 have HB2 := Lib.hid (bthen HB1.out hb2)
 clear hb2 C1 HB1 HR1 e0 e1 e2 e3 e4
 obtain ⟨e0, e1, e2, e3, e4⟩ := HR2.out.cells
 cases hnm : name r.nm with
 | false =>
  have HX := Lib.hid (HQ.out 10 w2 (ruleZ_10 (by rw [HTOP.out, hnm]; rfl)) HB2.out)
  clear hnm
  go_wp2_with fail
  exact HX.out
 | true =>
 have HTOP2 := HTOP.out
 rw [hnm, Bool.true_and] at HTOP2
 have HTOP := Lib.hid HTOP2
 clear HTOP2 hnm
 by_cases hg1 : r.goal < 1
 ·have g1 : (r.goal : Int) < 1 := by omega
  have HX := Lib.hid (HQ.out 10 w2 (ruleZ_10 (by rw [HTOP.out, decide_eq_false (by omega)]; rfl)) HB2.out)
  go_wp2_with fail
  exact HX.out
 by_cases hg3 : 3 < r.goal
 ·have g1 : ¬ (r.goal : Int) < 1 := by omega
  have g2 : (3 : Int) < (r.goal : Int) := by omega
  have HX := Lib.hid (HQ.out 10 w2 (ruleZ_10 (by rw [HTOP.out, decide_eq_false (by omega)]; rfl)) HB2.out)
  go_wp2_with fail
  exact HX.out
 have g1 : ¬ (r.goal : Int) < 1 := by omega
 have g2 : ¬ (3 : Int) < (r.goal : Int) := by omega
 have HTOP2 := HTOP.out
 rw [decide_eq_true (show 1 ≤ r.goal ∧ r.goal ≤ 3 by omega), Bool.true_and] at HTOP2
 have HTOP := Lib.hid HTOP2
 have C2 := Lib.hid (ref_Check11 r.fnd (by have := HS.out.f.1; omega) HS.out.f.fine _ w2 (HR.out.F.below HB2.out))
 clear HTOP2 hg1 hg3
 go_wp2_with fail
 refine C2.out.mono ?_
 rintro e w3 ⟨rfl, hb3⟩
 have HR3 := Lib.hid (HR2.out.below hb3)
 have HB3 := Lib.hid (bthen HB2.out hb3)
 clear hb3 C2 HB2 HR2 e0 e1 e2 e3 e4
 obtain ⟨e0, e1, e2, e3, e4⟩ := HR3.out.cells
 cases hcf2 : checkB r.fnd with
 | false =>
  have HX := Lib.hid (HQ.out 10 w3 (ruleZ_10 (by rw [HTOP.out, hcf2]; rfl)) HB3.out)
  clear hcf2
  simp only [Bool.false_eq_true, if_false]
  go_wp2_with fail
  exact HX.out
 | true =>
 have HCF := Lib.hid hcf2
 have HTOP2 := HTOP.out
 rw [hcf2, Bool.true_and] at HTOP2
 have HTOP := Lib.hid HTOP2
 have C3 := Lib.hid (ref_Check11 r.by' (by have := HS.out.b.1; omega) HS.out.b.fine _ w3 (HR.out.B.below HB3.out))
 clear HTOP2 hcf2
 simp only [if_true]
 go_wp2_with fail
 refine C3.out.mono ?_
 rintro e w4 ⟨rfl, hb4⟩
 have HR4 := Lib.hid (HR3.out.below hb4)
 have HB4 := Lib.hid (bthen HB3.out hb4)
 clear hb4 C3 HB3 HR3 e0 e1 e2 e3 e4
 obtain ⟨e0, e1, e2, e3, e4⟩ := HR4.out.cells
 cases hcb2 : checkB r.by' with
 | false =>
  have HX := Lib.hid (HQ.out 10 w4 (ruleZ_10 (by rw [HTOP.out, hcb2]; rfl)) HB4.out)
  clear hcb2
  simp only [Bool.false_eq_true, if_false]
  go_wp2_with fail
  exact HX.out
 | true =>
 have HCB := Lib.hid hcb2
 have HTOP2 := HTOP.out
 rw [hcb2, Bool.true_and] at HTOP2
 have HTOP := Lib.hid HTOP2
 have hb0 := (well_zero (checkB_inv hcb2).1).1
 clear HTOP2 hcb2
 simp only [if_true]
 have hbr := HR.out.B
 obtain ⟨bb, bo, rfl, _, _, hblt, hbc⟩ := hbr.at HB4.out hb0
 obtain ⟨f0, _, _⟩ := hbc 0 hb0
 rw [Nat.zero_mul, Nat.add_zero] at f0
 have hb0i : (0 : Int) < (r.by'.length : Int) := by omega
 have HK0 : RowKit.Hid (kindAt r.by' 0 = (r.by'[0]).1) := Lib.hid (by unfold kindAt; rw [List.getElem?_eq_getElem hb0])
 clear hbc hbr
 generalize (r.by'[0]).1 = k0 at *
 by_cases hg13 : r.goal = 3 ∧ k0 ≠ 13
 ·have g3 : ((r.goal : Int) == 3) = true := by rw [beq_iff_eq]; omega
  have g4 : ((k0 : Int) != 13) = true := by rw [bne_iff_ne]; omega
  have HX := Lib.hid (HQ.out 10 w4 (ruleZ_10 (by rw [HTOP.out, HK0.out, decide_eq_true hg13.1, decide_eq_true hg13.2]; rfl)) HB4.out)
  clear hg13
  go_wp2_with fail
  exact HX.out
 have HT1 : RowKit.Hid (ruleTop r = true) := Lib.hid (by
  rw [HTOP.out, HK0.out]
  by_cases h3 : r.goal = 3
  ·have h13 : k0 = 13 := Decidable.not_not.1 fun h => hg13 ⟨h3, h⟩
   rw [h13]; simp
  ·rw [decide_eq_false h3]; rfl)
 have HG13 : RowKit.Hid (((r.goal : Int) == 3) = false ∨ (((r.goal : Int) == 3) = true ∧ ((k0 : Int) != 13) = false)) := Lib.hid (by
  by_cases h3 : r.goal = 3
  ·have h13 : k0 = 13 := Decidable.not_not.1 fun h => hg13 ⟨h3, h⟩
   right; exact ⟨by rw [beq_iff_eq]; omega, by rw [bne_eq_false_iff_eq]; omega⟩
  ·left; rw [beq_eq_false_iff_ne]; omega)
 clear hg13 HTOP HK0
 rcases HG13.out with hg3 | ⟨hg3, hg4⟩
 all_goals
  go_upto_region 3 with (fail)
  clear f0
  go_wp2_with fail
  clear e0 e1 e2 e3 e4
  go_loopw [3, 4] (fun cv iv wr => rcOne r.holes w4 cv iv wr) (fun _ iv _ => r.holes.length - (intOf iv).toNat)
  case atStart => exact ⟨0, 0, rfl, rfl, Nat.zero_le _, rfl, Below.refl _ _⟩
  case round =>
   obtain ⟨k, n, rfl, rfl, hk, hn, hb⟩ := hrel
   have HB := Lib.hid hb
   have HN := Lib.hid hn
   have hnk : n ≤ k := by
    have := sevN_le (r.holes.take k)
    rw [List.length_take] at this
    omega
   clear hb hn
   have hwk : IntKind.i64.wrap ((k : Int) + 1) = (k : Int) + 1 := by rw [IntKind.wrap_i64]; omega
   have hwn : IntKind.i64.wrap ((n : Int) + 1) = (n : Int) + 1 := by rw [IntKind.wrap_i64]; omega
   have HR5 := Lib.hid (HR4.out.below HB.out)
   obtain ⟨e0, e1, e2, e3, e4⟩ := HR5.out.cells
   by_cases hlt : k < r.holes.length
   ·have hkl : (k : Int) < r.holes.length := by omega
    have hk0 : (0 : Int) ≤ (k : Int) := by omega
    have hkc : (k : Int) < (ch : Int) := by omega
    obtain ⟨b1, o1, rfl, _, _, _, hc1⟩ := HR.out.H.at (bthen HB4.out HB.out) (show 0 < r.holes.length by omega)
    obtain ⟨d0, d1⟩ := hc1 k hlt
    have HSV := Lib.hid (sevN_take hlt)
    have HMS : RowKit.Hid (r.holes.length - (k + 1) < r.holes.length - k) := Lib.hid (by omega)
    have CSV := Lib.hid (ref_Several (r.holes[k]).1 (r.holes[k]).2 wr)
    have HNT : RowKit.Hid (isSev (r.holes[k]).2 = true → n + 1 = sevN (r.holes.take (k + 1))) := Lib.hid fun h => by rw [HSV.out, if_pos h, HN.out]
    have HNF : RowKit.Hid (isSev (r.holes[k]).2 = false → n = sevN (r.holes.take (k + 1))) := Lib.hid fun h => by rw [HSV.out, if_neg (by rw [h]; simp), HN.out]; rfl
    clear hc1 HSV
    generalize (r.holes[k]).1 = hn1 at *
    generalize (r.holes[k]).2 = hk1 at *
    go_wp2_with fail
    refine CSV.out.mono ?_
    rintro e w5 ⟨rfl, hb5⟩
    have HB5 := Lib.hid (bthen HB.out hb5)
    clear hb5 CSV d0 d1 e0 e1 e2 e3 e4
    cases hsv : isSev hk1 with
    | true =>
     have HX := Lib.hid (HNT.out hsv)
     clear hsv
     go_wp2_with fail
     exact ⟨⟨k + 1, n + 1, by push_cast; rfl, by push_cast; rfl, by omega, HX.out, HB5.out⟩, HMS.out⟩
    | false =>
     have HX := Lib.hid (HNF.out hsv)
     clear hsv
     go_wp2_with fail
     exact ⟨⟨k + 1, n, by push_cast; rfl, rfl, by omega, HX.out, HB5.out⟩, HMS.out⟩
   ·obtain rfl : k = r.holes.length := by omega
    have hkl : ¬ (r.holes.length : Int) < r.holes.length := by omega
    have hn2 : n = sevN r.holes := by have := HN.out; rw [sevN_all] at this; exact this
    by_cases hl16 : 16 < r.holes.length
    ·have g5 : (16 : Int) < (r.holes.length : Int) := by omega
     have HX := Lib.hid (HQ.out 14 wr (ruleZ_14 HT1.out (Or.inl hl16)) (bthen HB4.out HB.out))
     go_wp2_with fail
     exact HX.out
    have g5 : ¬ (16 : Int) < (r.holes.length : Int) := by omega
    have HL16 : RowKit.Hid (r.holes.length ≤ 16) := Lib.hid (by omega)
    by_cases hs2 : 2 < n
    ·have g6 : (2 : Int) < (n : Int) := by omega
     have HX := Lib.hid (HQ.out 14 wr (ruleZ_14 HT1.out (Or.inr (by omega))) (bthen HB4.out HB.out))
     clear hn2 hs2
     go_wp2_with fail
     exact HX.out
    have g6 : ¬ (2 : Int) < (n : Int) := by omega
    have HS2 : RowKit.Hid (sevN r.holes ≤ 2) := Lib.hid (by omega)
    have HB5 := Lib.hid (bthen HB4.out HB.out)
    clear hs2 hn2 HN hl16
    go_wp2_with fail
    clear e0 e1 e2 e3 e4
    obtain ⟨w9, rfl⟩ : ∃ w9, w9 = wr := ⟨_, rfl⟩
    go_loopw [5] (fun iv wr => rcOut r w9 iv wr) (fun iv _ => r.holes.length - (intOf iv).toNat)
    case atStart => exact ⟨0, rfl, Nat.zero_le _, fun i hi => by omega, Below.refl _ _⟩
    case round =>
     obtain ⟨k, rfl, hk, hok, hb⟩ := hrel
     have HB7 : RowKit.Hid (Below w.heap.size w wr) := Lib.hid (bthen HB5.out hb)
     have HR7 := Lib.hid (HR5.out.below hb)
     have HB := Lib.hid hb
     have HOK := Lib.hid hok
     clear hb hok
     have hwk : IntKind.i64.wrap ((k : Int) + 1) = (k : Int) + 1 := by rw [IntKind.wrap_i64]; have := HL16.out; omega
     obtain ⟨e0, e1, e2, e3, e4⟩ := HR7.out.cells
     by_cases hlt : k < r.holes.length
     ·have hkl : (k : Int) < r.holes.length := by omega
      have hk0 : (0 : Int) ≤ (k : Int) := by omega
      have hkc : (k : Int) < (ch : Int) := by omega
      obtain ⟨b1, o1, rfl, _, _, _, hc1⟩ := HR.out.H.at HB7.out (show 0 < r.holes.length by omega)
      obtain ⟨d0, d1⟩ := hc1 k hlt
      have HHB := Lib.hid (holeB_eq hlt)
      have hsz := (HS.out.h.2 _ (List.getElem_mem hlt)).1
      have HGD : RowKit.Hid (((r.holes[k]?).getD (⟨#[]⟩, 0)).1 = (r.holes[k]).1) := Lib.hid (by rw [List.getElem?_eq_getElem hlt]; rfl)
      have HHC : RowKit.Hid (∀ W, Below w.heap.size w W → ∀ j (hj : j < r.holes.length), W.cell? ⟨b1, o1 + j * 2, none⟩ = some (.string (r.holes[j]).1)) := Lib.hid fun W hb j hj => by
       obtain ⟨b', o', e', _, _, _, hcc⟩ := HR.out.H.at hb (show 0 < r.holes.length by omega)
       simp only [Option.some.injEq, Addr.mk.injEq, and_true] at e'
       obtain ⟨rfl, rfl⟩ := e'
       exact (hcc j hj).1
      obtain ⟨h, hh⟩ : ∃ h, h = r.holes[k] := ⟨_, rfl⟩
      rw [← hh] at d0 d1 HHB hsz HGD
      obtain ⟨hn1, hk1⟩ := h
      simp only [] at d0 d1 HHB hsz HGD
      have HHH := Lib.hid hh
      have HMS : RowKit.Hid (r.holes.length - (k + 1) < r.holes.length - k) := Lib.hid (by omega)
      have HERR : RowKit.Hid (∀ w', holeB r k = false → Below w.heap.size w w' → Q (.returned (.int .i64 11)) w') := Lib.hid fun w' h hb => HQ.out 11 w' (ruleZ_11 HT1.out HL16.out HS2.out hlt h) hb
      have HNEXT : RowKit.Hid (∀ w', holeB r k = true → Below w9.heap.size w9 w' → rcOut r w9 (.int .i64 ((k : Int) + 1)) w') := Lib.hid fun w' h hb => ⟨k + 1, by push_cast; rfl, by omega, fun i hi => by
       by_cases e : i = k
       ·subst e; exact h
       ·exact HOK.out i (by omega), hb⟩
      have hA : Below wr.heap.size wr (wr.alloc (.cells #[.string hn1, .int .u8 (hk1 : Int)] 43)) := (Below.refl _ _).alloc (Nat.le_refl _) _
      have HB2 := Lib.hid (bthen HB.out hA)
      have HR8 := Lib.hid (HR7.out.below hA)
      have HK2 : RowKit.Hid ((wr.alloc (.cells #[.string hn1, .int .u8 (hk1 : Int)] 43)).heap[wr.heap.size]? = some (.cells #[.string hn1, .int .u8 (hk1 : Int)] 43 (0, 0))) := Lib.hid (heap_alloc_new _ _)
      clear hc1 hA hsz hh
      have hk16 : k ≤ 16 := by have := HL16.out; omega
      go_upto_region 15 with (fail)
      clear d0 d1 e0 e1 e2 e3 e4
      generalize wr.alloc (.cells #[.string hn1, .int .u8 (hk1 : Int)] 43) = W2 at *
      generalize wr.heap.size = gh at *
      go_wp2_with fail
      go_loopw [7] (fun iv wr => rcIn r k W2 iv wr) (fun iv _ => k - (intOf iv).toNat)
      case atStart => exact ⟨0, rfl, Nat.zero_le _, fun i _ hi => by omega, Below.refl _ _⟩
      case round =>
       obtain ⟨j, rfl, hjk, hno, hb⟩ := hrel
       rw [HGD.out] at hno
       have HNO := Lib.hid hno
       have HB3 := Lib.hid (bthen HB2.out hb)
       have HBI := Lib.hid hb
       have HR9 := Lib.hid (HR8.out.below hb)
       have HK3 := Lib.hid (keeps hb HK2.out)
       clear hb hno
       obtain ⟨e0, e1, e2, e3, e4⟩ := HR9.out.cells
       have g0 : wr.cell? ⟨gh, 0, none⟩ = some (.string hn1) := by simp [World.cell?, HK3.out]
       have g1 : wr.cell? ⟨gh, 1, none⟩ = some (.int .u8 (hk1 : Int)) := by simp [World.cell?, HK3.out]
       have HB4b := Lib.hid (bthen HB5.out HB3.out)
       by_cases hjlt : j < k
       ·have hjl : j < r.holes.length := by omega
        have d0 := HHC.out wr HB4b.out j hjl
        have hji : (j : Int) < (k : Int) := by omega
        have hj0 : (0 : Int) ≤ (j : Int) := by omega
        have hjh : (j : Int) < r.holes.length := by omega
        have hjc : (j : Int) < (ch : Int) := by omega
        have hwj : IntKind.i64.wrap ((j : Int) + 1) = (j : Int) + 1 := by rw [IntKind.wrap_i64]; omega
        by_cases he : (r.holes[j]).1 = hn1
        ·have HX := Lib.hid (fun nq => HERR.out (wr.drewN nq) (by rw [HHB.out, dup_yes hjl hjlt he]; rfl) (drewB HB4b.out nq))
         rw [he] at d0
         clear he
         go_upto_region 18 with (fail)
         go_quiet (fail)
         go_wp2_with fail
         exact HX.out _
        ·have HX : RowKit.Hid (∀ W, Below W2.heap.size W2 W → rcIn r k W2 (.int .i64 ((j : Int) + 1)) W) := Lib.hid fun W hb => ⟨j + 1, by push_cast; rfl, by omega, fun i hi hij => by
          rw [HGD.out]
          by_cases e : i = j
          ·subst e; exact he
          ·exact HNO.out i hi (by omega), hb⟩
         have HY := Lib.hid (fun nq => HX.out _ (drewB HBI.out nq))
         have g2 : ((r.holes[j]).1.toList == hn1.toList) = false := by rw [beq_eq_false_iff_ne]; exact pl_bytes_ne he
         clear he
         generalize (r.holes[j]).1 = hj1 at *
         go_upto_region 18 with (fail)
         go_quiet (fail)
         go_wp2_with fail
         exact ⟨HY.out _, by simp only [intOf]; omega⟩
       ·obtain rfl : j = k := by omega
        have hji : ¬ (j : Int) < (j : Int) := by omega
        have HDN : RowKit.Hid (dupB r j hn1 = false) := Lib.hid (dup_no HNO.out)
        have CN := Lib.hid (ref_Name hn1 wr (by have := (HS.out.h.2 _ (List.getElem_mem hlt)).1; rw [← HHH.out] at this; simp only [] at this; omega))
        have hhb := HHB.out
        rw [HDN.out, Bool.not_false, Bool.true_and] at hhb
        have HHB := Lib.hid hhb
        clear hhb
        go_wp2_with fail
        refine CN.out.mono ?_
        rintro e w5 ⟨rfl, hb5⟩
        have HB6 := Lib.hid (bthen HB4b.out hb5)
        have HB6i := Lib.hid (bthen HB3.out hb5)
        have HK5 := Lib.hid (keeps hb5 HK3.out)
        have HR10 := Lib.hid (HR9.out.below hb5)
        clear hb5 CN g0 g1 e0 e1 e2 e3 e4
        have g0 : w5.cell? ⟨gh, 0, none⟩ = some (.string hn1) := by simp [World.cell?, HK5.out]
        have g1 : w5.cell? ⟨gh, 1, none⟩ = some (.int .u8 (hk1 : Int)) := by simp [World.cell?, HK5.out]
        obtain ⟨e0, e1, e2, e3, e4⟩ := HR10.out.cells
        cases hnm : name hn1 with
        | false =>
         have HX := Lib.hid (HERR.out w5 (by rw [HHB.out, hnm]; rfl) HB6.out)
         clear hnm
         go_wp2_with fail
         exact HX.out
        | true =>
        have hhb := HHB.out
        rw [hnm, Bool.true_and] at hhb
        have HHB := Lib.hid hhb
        clear hnm hhb
        by_cases hk1l : hk1 < 1
        ·have q1 : (hk1 : Int) < 1 := by omega
         have HX := Lib.hid (HERR.out w5 (by rw [HHB.out, decide_eq_false (by omega)]; rfl) HB6.out)
         clear hk1l
         go_wp2_with fail
         exact HX.out
        by_cases hk7 : 7 < hk1
        ·have q1 : ¬ (hk1 : Int) < 1 := by omega
         have q2 : (7 : Int) < (hk1 : Int) := by omega
         have HX := Lib.hid (HERR.out w5 (by rw [HHB.out, decide_eq_false (by omega)]; rfl) HB6.out)
         clear hk1l hk7
         go_wp2_with fail
         exact HX.out
        have q1 : ¬ (hk1 : Int) < 1 := by omega
        have q2 : ¬ (7 : Int) < (hk1 : Int) := by omega
        have hhb := HHB.out
        rw [decide_eq_true (show 1 ≤ hk1 ∧ hk1 ≤ 7 by omega), Bool.true_and] at hhb
        have HHB := Lib.hid hhb
        clear hhb hk1l hk7
        have CP1 := Lib.hid (ref_places r.fnd (by have := HS.out.f.1; omega) _ (well_rows (checkB_inv HCF.out).1) _ (hn1, hk1) w5 (HR.out.F.below HB6.out))
        go_wp2_with fail
        refine CP1.out.mono ?_
        rintro e w6 ⟨rfl, hb6⟩
        have HB7 := Lib.hid (bthen HB6.out hb6)
        have HB7i := Lib.hid (bthen HB6i.out hb6)
        have HK6 := Lib.hid (keeps hb6 HK5.out)
        have HR11 := Lib.hid (HR10.out.below hb6)
        clear hb6 CP1 g0 g1 e0 e1 e2 e3 e4
        have g0 : w6.cell? ⟨gh, 0, none⟩ = some (.string hn1) := by simp [World.cell?, HK6.out]
        have g1 : w6.cell? ⟨gh, 1, none⟩ = some (.int .u8 (hk1 : Int)) := by simp [World.cell?, HK6.out]
        obtain ⟨e0, e1, e2, e3, e4⟩ := HR11.out.cells
        have CP2 := Lib.hid (ref_places r.by' (by have := HS.out.b.1; omega) _ (well_rows (checkB_inv HCB.out).1) _ (hn1, hk1) w6 (HR.out.B.below HB7.out))
        generalize placesZ r.fnd (hn1, hk1) = z1 at *
        generalize placesZ r.by' (hn1, hk1) = z2 at *
        by_cases hz1 : z1 < 1
        ·have HX := Lib.hid (HERR.out w6 (by rw [HHB.out, decide_eq_false (by omega)]; rfl) HB7.out)
         go_wp2_with fail
         exact HX.out
        have hhb := HHB.out
        rw [decide_eq_true (show 1 ≤ z1 by omega), Bool.true_and] at hhb
        have HHB := Lib.hid hhb
        clear hhb
        go_wp2_with fail
        refine CP2.out.mono ?_
        rintro e w7 ⟨rfl, hb7⟩
        have HB8 := Lib.hid (bthen HB7.out hb7)
        have HB8i := Lib.hid (bthen HB7i.out hb7)
        clear hb7 CP2 g0 g1 e0 e1 e2 e3 e4
        by_cases hz2 : z2 < 0
        ·have HX := Lib.hid (HERR.out w7 (by rw [HHB.out, decide_eq_false (by omega)]) HB8.out)
         go_wp2_with fail
         exact HX.out
        ·have HX := Lib.hid (HNEXT.out w7 (by rw [HHB.out, decide_eq_true (by omega)]) HB8i.out)
         go_wp2_with fail
         exact ⟨HX.out, HMS.out⟩
     ·obtain rfl : k = r.holes.length := by omega
      have hkl : ¬ (r.holes.length : Int) < r.holes.length := by omega
      have HX := Lib.hid (HQ.out 0 wr (ruleZ_0 HT1.out HL16.out HS2.out HOK.out) HB7.out)
      go_wp2_with fail
      exact HX.out
end Go.Proofs.YtlkheofphafofaaGreatDoor
namespace Go.Proofs.YtlkheofphafofaaGreatDoor
set_option linter.all false
attribute [local irreducible] Calls
attribute [local irreducible] wpStill
open Go.RowKit

def natV (ns : List Nat) : List Value := ns.map fun (n : Nat) => Value.int .i64 (n : Int)
end Go.Proofs.YtlkheofphafofaaGreatDoor
namespace Go.Proofs.YtlkheofphafofaaGreatDoor
set_option linter.all false
open Go.RowKit

@[irreducible] def kidsOwn (ks : List Nat) (w0 : World) (e : Ending) (w' : World) : Prop :=
 ∃ v, e = .returned v ∧ Below w0.heap.size w0 w' ∧ w'.ownsRow w0.heap.size 3 1 v ks.length (natV ks)
set_option maxRecDepth 100000 in
set_option maxHeartbeats 8000000 in
theorem ref_KidsOwn (l : List Prt) (hl : l.length ≤ 1000000000) (us : List Nat) (hus : rowsB l = some us) (v : Value) (i : Nat) (hi : i < l.length) (w : World) (hr : PartRow w v l) :
  Calls Tryz.prog 50 #[v, .int .i64 (i : Int)] w (kidsOwn (kidsB l i) w) := by
 have HQ : RowKit.Hid (∀ v' w', Below w.heap.size w w' → w'.ownsRow w.heap.size 3 1 v' (kidsB l i).length (natV (kidsB l i)) → kidsOwn (kidsB l i) w (.returned v') w') := Lib.hid fun v' w' h2 h3 => by
  unfold kidsOwn; exact ⟨v', rfl, h2, h3⟩
 have HR := Lib.hid hr
 obtain ⟨va, vcap, rfl, hvc⟩ := hr.slice
 clear hr
 obtain ⟨ts, q, f1, f2, f3, f4, f5⟩ := kids_facts hus hi
 have HST := Lib.hid (fun n (hn : n < q) => kid_step hus f1 f3 hn)
 have HCE := Lib.hid (fun (W' : World) (hb : Below w.heap.size w W') k (hk : k < l.length) => show Calls Tryz.prog 20 #[.slice va l.length vcap, .int .i64 (k : Int)] W' fun e w' => e = .returned (.int .i64 (endB l k : Int)) ∧ W' = w' by
  have := ref_End11 l hl _ k (by omega) W' (HR.out.below hb)
  rw [endR_end hus hk] at this
  exact this)
 have HK5 := Lib.hid f5
 have HE4 := Lib.hid f4
 have HQT := Lib.hid f3
 have hqt : ts.length ≤ l.length := by have := (rowsB_sum f1).2.1; rw [List.length_drop] at this; omega
 have hqb : q ≤ 1000000000 := by omega
 have hee := (endB_gt hus hi).2
 rw [f4] at hee
 obtain ⟨b, off, rfl, _, _, _, hcell⟩ := HR.out.at (Below.refl _ _) (show 0 < l.length by omega)
 have hc1 := (hcell i hi).2.1
 rw [f2] at hc1
 have HC : RowKit.Hid (∀ W', Below w.heap.size w W' → W'.cell? ⟨b, off + i * 3 + 1, none⟩ = some (.int .i64 (q : Int))) := Lib.hid fun W' hb => by
  obtain ⟨b', off', hbb, _, _, _, hcc⟩ := HR.out.at hb (show 0 < l.length by omega)
  simp only [Option.some.injEq, Addr.mk.injEq, and_true] at hbb
  obtain ⟨rfl, rfl⟩ := hbb
  rw [(hcc i hi).2.1, f2]
 generalize kidsOwn (kidsB l i) w = Q at *
 have hji : (i : Int) < l.length := by omega
 have hj0 : (0 : Int) ≤ i := by omega
 have hjc : (i : Int) < vcap := by omega
 have hwj : IntKind.i64.wrap ((i : Int) + 1) = (i : Int) + 1 := by rw [IntKind.wrap_i64]; omega
 clear f1 f2 f3 f4 f5 hcell hc1
 go_enter Tryz.func50, Tryz.ntmps50
 go_wp2_with fail
 go_loopw [5, 6, 7] (fun v k c wr => ∃ n : Nat, c = .int .i64 (n : Int) ∧ n ≤ q ∧ k = .int .i64 ((i + 1 + (ts.take n).sum : Nat) : Int) ∧ wr.ownsRow w.heap.size 3 1 v n (((starts (i + 1) ts).take n).map fun (x : Nat) => Value.int .i64 (x : Int)) ∧ Below w.heap.size w wr) (fun _ _ c _ => q - (intOf c).toNat)
 case atStart => exact ⟨0, rfl, Nat.zero_le _, by simp, World.ownsRow_nil _ _ _ _, Below.refl _ _⟩
 case round =>
  obtain ⟨n, rfl, hn, rfl, ho, hb⟩ := hrel
  have HO := Lib.hid ho
  have HB := Lib.hid hb
  have HNN := Lib.hid hn
  obtain ⟨_, oa, oc, rfl, _, _, _⟩ := Row.of_owns ho
  have d0 := HC.out _ HB.out
  have hbs := hb.size
  clear ho hb hn
  by_cases hlt : n < q
  ·obtain ⟨g1, g2, g3, g4, g5, g6⟩ := HST.out n hlt
   have HG3 := Lib.hid g3
   have hlt' : (n : Int) < q := by omega
   have hC := fun W' hb => HCE.out W' hb _ g1
   rw [g2] at hC
   have HCK := Lib.hid hC
   have hnb : n ≤ 1000000000 := by omega
   have HN1 : RowKit.Hid (n + 1 ≤ q) := Lib.hid hlt
   have HMS : RowKit.Hid (q - (n + 1) < q - n) := Lib.hid (by omega)
   have hwn : IntKind.i64.wrap ((n : Int) + 1) = (n : Int) + 1 := by rw [IntKind.wrap_i64]; omega
   clear g1 g2 g3 g4 g5 g6 hC
   generalize hK1 : i + 1 + (ts.take n).sum = K1 at *
   generalize hK2 : i + 1 + (ts.take (n + 1)).sum = K2 at *
   have HK2 := Lib.hid hK2
   clear hK1 hK2
   go_wp2_with (at_builtin; refine wpList_append_lit wr #[.int .i64 (K1 : Int)] _ rfl _ _ 49 3 rfl Tryz.underlying49 w.heap.size Tinfo_int rfl (by decide) _ _ _ rfl HO.out 1 1 rfl rfl (by decide) (by intro u hu; simp at hu; subst hu; rfl) (by omega) (by omega) hbs ?_)
   intro v' w' hown hgr _
   have hb' := grown_below HB.out hbs HO.out hgr
   have CK := Lib.hid (HCK.out w' hb')
   have HRL : RowKit.Hid (w'.ownsRow w.heap.size 3 1 v' (n + 1) (((starts (i + 1) ts).take (n + 1)).map fun (x : Nat) => Value.int .i64 (x : Int)) ∧ Below w.heap.size w w') := Lib.hid ⟨by have h := hown; rw [HG3.out]; simpa using h, hb'⟩
   obtain ⟨_, va', vc', rfl, _, _, _⟩ := Row.of_owns hown
   clear hown hgr hb' d0
   go_wp2_with fail
   refine CK.out.mono ?_
   rintro e w2 ⟨rfl, rfl⟩
   go_wp2_with fail
   refine ⟨⟨n + 1, congrArg (Value.int .i64) (by omega), HN1.out, by rw [HK2.out], HRL.out.1, HRL.out.2⟩, ?_⟩
   have := HMS.out
   simp only [intOf]
   omega
  ·have hnq : n = q := by have := HNN.out; omega
   subst hnq
   have HRW : RowKit.Hid (wr.ownsRow w.heap.size 3 1 (.slice oa n oc) (kidsB l i).length (natV (kidsB l i))) := Lib.hid (by
    have e : (kidsB l i).length = n := by rw [HK5.out, List.length_take, starts_length]; have := HQT.out; omega
    rw [e, HK5.out]; exact HO.out)
   go_wp2_with fail
   exact HQ.out _ _ HB.out HRW.out
end Go.Proofs.YtlkheofphafofaaGreatDoor
namespace Go.Proofs.YtlkheofphafofaaGreatDoor
set_option linter.all false
open Go.RowKit

theorem cell_lt2 {w : World} {b o : Nat} {v : Value} (h : w.cell? ⟨b, o, none⟩ = some v) : b < w.heap.size := by
 apply Classical.byContradiction
 intro hn
 unfold World.cell? at h
 rw [Array.getElem?_eq_none (by simpa using hn)] at h
 cases h
theorem cell_of_heap {w w' : World} {b o : Nat} (h : w'.heap[b]? = w.heap[b]?) : w'.cell? ⟨b, o, none⟩ = w.cell? ⟨b, o, none⟩ := by
 unfold World.cell?
 simp only [h]
theorem row_other {w w' : World} {B B2 : Nat} {e e2 : TypeId} {size n size2 n2 : Nat} {v v2 : Value} {xs xs2 : List Value} (h : w.ownsRow B e size v n xs) (hg : w.grownBy w' v.ownBlock) (h2 : w.ownsRow B2 e2 size2 v2 n2 xs2) (ht : e2 ≠ e) : w'.ownsRow B2 e2 size2 v2 n2 xs2 := by
 obtain ⟨g1, g2⟩ := h2
 refine ⟨g1, ?_⟩
 rcases g2 with g2 | ⟨k, cap, cur, hv, hk, hh, r⟩
 ·exact Or.inl g2
 ·refine Or.inr ⟨k, cap, cur, hv, hk, ?_, r⟩
  rw [hg.block k (keeps_lt hh) ?_, hh]
  intro e1
  rcases h.2 with ⟨rfl, _⟩ | ⟨k1, cap1, cur1, rfl, _, hh1, _⟩
  ·simp [Value.ownBlock] at e1
  ·simp [Value.ownBlock] at e1
   subst e1
   rw [hh] at hh1
   cases hh1
   exact ht rfl
structure InW (w0 : World) (q : Nat) (kp : Nat → Nat) (ka : Option Addr) (hk : Nat) (hw : ByteArray) (M : List PN) (ov fv : Value) (w : World) : Prop where
 o : w.ownsRow w0.heap.size 48 3 ov (M.length + 1) (partsV ((hk, (cntP (M.map (·.1)) : Int), hw) :: M.map (·.1)))
 f : w.ownsRow w0.heap.size 3 1 fv (M.length + 1) (intsV (-1 :: M.map (·.2)))
 k : ∀ c, c < q → ∃ g, ka = some ⟨g, 0, none⟩ ∧ ov.ownBlock ≠ some g ∧ fv.ownBlock ≠ some g ∧ w.cell? ⟨g, c, none⟩ = some (.int .i64 (kp c : Int))
 b : Below w0.heap.size w0 w
theorem InW.below {w0 w w' : World} {q : Nat} {kp : Nat → Nat} {ka : Option Addr} {hk : Nat} {hw : ByteArray} {M : List PN} {ov fv : Value} (h : InW w0 q kp ka hk hw M ov fv w) (hb : Below w.heap.size w w') : InW w0 q kp ka hk hw M ov fv w' :=
 ⟨owns_below h.o hb, owns_below h.f hb, fun c hc => by
  obtain ⟨g, h1, h2, h3, h4⟩ := h.k c hc
  exact ⟨g, h1, h2, h3, by rw [hb.cell (p := ⟨g, c, none⟩) (cell_lt2 h4)]; exact h4⟩, bthen h.b hb⟩
theorem owns_ne {w : World} {B B2 : Nat} {e e2 : TypeId} {size n size2 n2 : Nat} {v v2 : Value} {xs xs2 : List Value} (h : w.ownsRow B e size v n xs) (h2 : w.ownsRow B2 e2 size2 v2 n2 xs2) (ht : e2 ≠ e) {g : Nat} (hg : v.ownBlock = some g) : v2.ownBlock ≠ some g := by
 intro hg2
 rcases h.2 with ⟨hv, _⟩ | ⟨k, cap, cur, hv, _, hh, _⟩
 ·rw [hv] at hg; simp [Value.ownBlock] at hg
 ·rw [hv] at hg; simp [Value.ownBlock] at hg; subst hg
  rcases h2.2 with ⟨hv2, _⟩ | ⟨k2, cap2, cur2, hv2, _, hh2, _⟩
  ·rw [hv2] at hg2; simp [Value.ownBlock] at hg2
  ·rw [hv2] at hg2; simp [Value.ownBlock] at hg2; subst hg2
   rw [hh] at hh2
   simp only [Option.some.injEq, Obj.cells.injEq] at hh2
   exact ht hh2.2.1.symm
theorem intsV_one (xs : List Int) : ∀ u ∈ intsV xs, u.oneCell' = true := by
 intro u hu
 unfold intsV at hu
 obtain ⟨x, _, rfl⟩ := List.mem_map.1 hu
 rfl
theorem intsV_app (a b : List Int) : intsV (a ++ b) = intsV a ++ intsV b := by unfold intsV; rw [List.map_append]
theorem InW.step {w0 w : World} {q : Nat} {kp : Nat → Nat} {ka : Option Addr} {hk : Nat} {hw : ByteArray} {M N : List PN} {ov fv va vb : Value} (h : InW w0 q kp ka hk hw M ov fv w) {us ts : List Nat} (hu : rowsB (M.map (·.1)) = some us) (ht : rowsB (N.map (·.1)) = some ts) {B : Nat}
  (ha : w.ownsRow B 48 3 va N.length (partsV (N.map (·.1)))) (hb : w.ownsRow B 3 1 vb N.length (intsV (N.map (·.2)))) (hB : ∀ g, ov.ownBlock = some g → g < B) (hB2 : ∀ g, fv.ownBlock = some g → g < B) (hlen : M.length + N.length ≤ 1000000000) :
  ∃ g cap w8 w9 v8 v9, ov = .slice (some ⟨g, 0, none⟩) (M.length + 1) cap ∧ M.length + 1 ≤ cap ∧ w.cell? ⟨g, 1, none⟩ = some (.int .i64 (us.length : Int)) ∧ w.frozen? ⟨g, 1, none⟩ = false ∧
   (Builtin.append_ #[23, 23] 23 #[ov, va]).run Tryz.prog (w.setCell ⟨g, 1, none⟩ (.int .i64 ((us.length : Int) + ts.length))) = .ok v8 w8 ∧
   (Builtin.append_ #[49, 49] 49 #[fv, vb]).run Tryz.prog w8 = .ok v9 w9 ∧ InW w0 q kp ka hk hw (M ++ N) v8 v9 w9 := by
 have hc1 : cntP (M.map (·.1)) = us.length := cntP_of hu
 have hc2 : cntP ((M ++ N).map (·.1)) = us.length + ts.length := by rw [List.map_append]; exact cntP_app hu ht
 have hoo := h.o
 rcases hoo.2 with ⟨_, h0⟩ | ⟨g, cap, cur, hv, hg, hh, hnc, hcm, hcs, htk⟩
 ·omega
 subst hv
 have hog : (Value.slice (some ⟨g, 0, none⟩) (M.length + 1) cap).ownBlock = some g := rfl
 have hc : w.cell? ⟨g, 1, none⟩ = some (.int .i64 (us.length : Int)) := by
  rw [hoo.cellAt 1 (by omega), hc1]
  rfl
 have hz : w.frozen? ⟨g, 1, none⟩ = false := by simp [World.frozen?, hh]
 have o7 := owns_set hoo 1 (by rw [partsV_length, List.length_cons]; omega) (.int .i64 ((us.length : Int) + ts.length))
 have e7 : (partsV ((hk, (cntP (M.map (·.1)) : Int), hw) :: M.map (·.1))).set 1 (.int .i64 ((us.length : Int) + ts.length)) = partsV ((hk, (us.length : Int) + ts.length, hw) :: M.map (·.1)) := rfl
 rw [e7] at o7
 have n1 : va.ownBlock ≠ some g := fun e => by
  have h1 := (ha.lt g e).1
  have h2 := hB g hog
  omega
 have n2 := owns_ne hoo h.f (by decide) hog
 have n3 := owns_ne hoo hb (by decide) hog
 have a7 := ownsRow_setCell_other ha (a := ⟨g, 1, none⟩) n1 (.int .i64 ((us.length : Int) + ts.length))
 have f7 := ownsRow_setCell_other h.f (a := ⟨g, 1, none⟩) n2 (.int .i64 ((us.length : Int) + ts.length))
 have b7 := ownsRow_setCell_other hb (a := ⟨g, 1, none⟩) n3 (.int .i64 ((us.length : Int) + ts.length))
 have w7b := h.b.setCell (p := ⟨g, 1, none⟩) hg (.int .i64 ((us.length : Int) + ts.length))
 have k7 : ∀ c, c < q → ∃ g', ka = some ⟨g', 0, none⟩ ∧ g' ≠ g ∧ fv.ownBlock ≠ some g' ∧ (w.setCell ⟨g, 1, none⟩ (.int .i64 ((us.length : Int) + ts.length))).cell? ⟨g', c, none⟩ = some (.int .i64 (kp c : Int)) := fun c hc => by
  obtain ⟨g', h1, h2, h3, h4⟩ := h.k c hc
  have hne : g' ≠ g := fun e => h2 (by rw [e]; rfl)
  exact ⟨g', h1, hne, h3, by rw [World.cell?_setCell_other (h := fun e => hne (congrArg Addr.block e).symm)]; exact h4⟩
 generalize hW7 : w.setCell ⟨g, 1, none⟩ (.int .i64 ((us.length : Int) + ts.length)) = w7 at *
 obtain ⟨v8, w8, r8, o8, g8, p8⟩ := append_eq (P := Tryz.prog) w7 23 23 48 Tryz.underlying23 w0.heap.size Tinfo_part rfl (by decide) _ (M.length + 1) _ o7 va N.length (partsV (N.map (·.1))) (Row.of_owns a7) (partsV_one _) (by omega) (by omega) w7b.size
 have f8 := row_other o7 g8 f7 (by decide)
 have b8 := row_other o7 g8 b7 (by decide)
 have w8b := grown_keeps w7b w7b.size o7 g8
 obtain ⟨v9, w9, r9, f9, g9, p9⟩ := append_eq (P := Tryz.prog) w8 49 49 3 Tryz.underlying49 w0.heap.size Tinfo_int rfl (by decide) fv (M.length + 1) _ f8 vb N.length (intsV (N.map (·.2))) (Row.of_owns b8) (intsV_one _) (by omega) (by omega) w8b.size
 have o9 := row_other f8 g9 o8 (by decide)
 have w9b := grown_keeps w8b w8b.size f8 g9
 refine ⟨g, cap, w8, w9, v8, v9, rfl, hnc, hc, hz, by rw [hW7]; exact r8, r9, ⟨?_, ?_, fun c hc => ?_, w9b⟩⟩
 ·rw [hc2]
  rw [List.map_append, List.length_append, show M.length + N.length + 1 = M.length + 1 + N.length by omega, ← List.cons_append, partsV_append]
  push_cast
  exact o9
 ·rw [List.map_append, List.length_append, show M.length + N.length + 1 = M.length + 1 + N.length by omega, ← List.cons_append, intsV_app]
  exact f9
 ·obtain ⟨g', h1, h2, h3, h4⟩ := k7 c hc
  have l7 := cell_lt2 h4
  have e8 : w8.cell? ⟨g', c, none⟩ = some (.int .i64 (kp c : Int)) := by
   have := g8.block g' l7 (fun e => h2 (by rw [hog] at e; exact (Option.some.inj e)))
   rw [cell_of_heap this]; exact h4
  have l8 := cell_lt2 e8
  have e9 : w9.cell? ⟨g', c, none⟩ = some (.int .i64 (kp c : Int)) := by
   have := g9.block g' l8 (fun e => h3 e.symm)
   rw [cell_of_heap this]; exact e8
  refine ⟨g', h1, ?_, ?_, e9⟩
  ·rcases p8 with e | e
   ·rw [e, hog]; exact fun e2 => h2 (Option.some.inj e2).symm
   ·rw [e]; exact fun e2 => by have := Option.some.inj e2; omega
  ·rcases p9 with e | e
   ·rw [e]; exact h3
   ·rw [e]; exact fun e2 => by have := Option.some.inj e2; omega
end Go.Proofs.YtlkheofphafofaaGreatDoor
