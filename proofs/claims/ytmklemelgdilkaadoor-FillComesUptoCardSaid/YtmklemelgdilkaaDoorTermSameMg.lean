/- Layer 11: Same, the program's and the document's, walked. -/
import Derived.Test.YtmklemelgdilkaaDoorTermMg
namespace Go.Proofs.YtmklemelgdilkaaDoor
set_option linter.all false
open Go.RowKit

theorem drewB {B : Nat} {a w : World} (h : Below B a w) (n : Nat) : Below B a (w.drewN n) := ⟨h.os, h.tape, h.output, h.size, h.block⟩
def TellsEq (x : Bool) (a b : List Prt) : Prop := x = true ↔ a = b
def PK (W : World) (g : Nat) (p : Prt) : Prop := W.heap[g]? = some (.cells #[.int .u8 (p.1 : Int), .int .i64 p.2.1, .string p.2.2] 38 (0, 0))
theorem PK.c0 {W : World} {g : Nat} {p : Prt} (h : PK W g p) : W.cell? ⟨g, 0, none⟩ = some (.int .u8 (p.1 : Int)) := by unfold PK at h; simp [World.cell?, h]
theorem PK.c1 {W : World} {g : Nat} {p : Prt} (h : PK W g p) : W.cell? ⟨g, 1, none⟩ = some (.int .i64 p.2.1) := by unfold PK at h; simp [World.cell?, h]
theorem PK.c2 {W : World} {g : Nat} {p : Prt} (h : PK W g p) : W.cell? ⟨g, 2, none⟩ = some (.string p.2.2) := by unfold PK at h; simp [World.cell?, h]
theorem PK.fz {W : World} {g : Nat} {p : Prt} (h : PK W g p) (i : Nat) : W.frozen? ⟨g, i, none⟩ = false := by unfold PK at h; simp [World.frozen?, h]
theorem PK.keep {W W' : World} {g : Nat} {p : Prt} (h : PK W g p) (hb : Below W.heap.size W W') : PK W' g p := by unfold PK at h ⊢; rw [hb.block g (lt_of_block h)]; exact h
theorem PK.alloc_new (W : World) (p : Prt) : PK (W.alloc (.cells #[.int .u8 (p.1 : Int), .int .i64 p.2.1, .string p.2.2] 38)) W.heap.size p := by unfold PK; exact heap_alloc_new _ _
def sameRel (a b : List Prt) (w : World) (i : Value) (wr : World) : Prop := ∃ k : Nat, i = .int .i64 (k : Int) ∧ k ≤ a.length ∧ a.take k = b.take k ∧ Below w.heap.size w wr
set_option maxRecDepth 100000 in
set_option maxHeartbeats 8000000 in
theorem ref_Same11 (v1 v2 : Value) (a b : List Prt) (hla : a.length ≤ 1000000000) (hlb2 : b.length ≤ 1000000000) (w : World) (hr1 : PartRow w v1 a) (hr2 : PartRow w v2 b) :
  Calls Tryd.prog 13 #[v1, v2] w fun e w' => ∃ x, e = .returned (.bool x) ∧ TellsEq x a b ∧ Below w.heap.size w w' := by
 have HQ : RowKit.Hid (∀ x w', TellsEq x a b → Below w.heap.size w w' → (fun (e : Ending) w' => ∃ x, e = .returned (.bool x) ∧ TellsEq x a b ∧ Below w.heap.size w w') (.returned (.bool x)) w') := Lib.hid fun x w' h h2 => ⟨x, rfl, h, h2⟩
 generalize (fun (e : Ending) w' => ∃ x, e = .returned (.bool x) ∧ TellsEq x a b ∧ Below w.heap.size w w') = Q at *
 have HR1 := Lib.hid hr1
 have HR2 := Lib.hid hr2
 obtain ⟨a1, cap1, rfl, hcap1⟩ := hr1.slice
 obtain ⟨a2, cap2, rfl, hcap2⟩ := hr2.slice
 clear hr1 hr2
 go_enter Tryd.func13, Tryd.ntmps13
 by_cases hl : a.length = b.length
 ·have hlb : ((a.length : Int) == (b.length : Int)) = true := by rw [beq_iff_eq]; omega
  have hlc : ((a.length : Int) != (b.length : Int)) = false := by rw [bne_eq_false_iff_eq]; omega
  have hld : (a.length != b.length) = false := by rw [bne_eq_false_iff_eq]; exact hl
  have HL := Lib.hid hl
  clear hl
  go_wp2_with fail
  go_loopw [5] (fun i wr => sameRel a b w i wr) (fun i _ => a.length - (intOf i).toNat)
  case atStart => exact ⟨0, rfl, Nat.zero_le _, rfl, Below.refl _ _⟩
  case round =>
   obtain ⟨k, rfl, hk, htk, hb⟩ := hrel
   have HB := Lib.hid hb
   have HTK := Lib.hid htk
   clear hb htk
   by_cases hlt : k < a.length
   ·have hlt' : (k : Int) < a.length := by omega
    have hkb : k < b.length := by have := HL.out; omega
    obtain ⟨b1, o1, rfl, _, _, _, hc1⟩ := HR1.out.at HB.out (show 0 < a.length by omega)
    obtain ⟨b2, o2, rfl, _, _, _, hc2⟩ := HR2.out.at HB.out (show 0 < b.length by omega)
    obtain ⟨d0, d1, d2⟩ := hc1 k hlt
    obtain ⟨e0, e1, e2⟩ := hc2 k hkb
    have hk0 : (0 : Int) ≤ k := by omega
    have hlt2 : (k : Int) < b.length := by omega
    have hkc1 : (k : Int) < cap1 := by omega
    have hkc2 : (k : Int) < cap2 := by omega
    have hwk : IntKind.i64.wrap ((k : Int) + 1) = ((k + 1 : Nat) : Int) := by rw [IntKind.wrap_i64]; omega
    have HK1 : RowKit.Hid (k + 1 ≤ a.length) := Lib.hid hlt
    have HML : RowKit.Hid (a.length - (k + 1) < a.length - k) := Lib.hid (by omega)
    have HX := Lib.hid (fun (h : a[k] = b[k]) => show a.take (k + 1) = b.take (k + 1) by
     rw [List.take_succ_eq_append_getElem hlt, List.take_succ_eq_append_getElem hkb, HTK.out]; exact congrArg (fun z => List.take k b ++ [z]) h)
    have HY := Lib.hid (fun (h : a[k] ≠ b[k]) => show TellsEq false a b from ⟨(fun e => by cases e), fun e => absurd (by subst e; rfl) h⟩)
    clear hc1 hc2
    generalize a[k] = x at *
    generalize hye : b[k] = y at *
    have HYE := Lib.hid hye
    clear hye
    obtain ⟨xk, xn, xw⟩ := x
    obtain ⟨yk, yn, yw⟩ := y
    simp only [] at d0 d1 d2 e0 e1 e2
    have HB1 := HB
    by_cases hE : xk = yk ∧ xn = yn ∧ xw = yw
    ·obtain ⟨rfl, rfl, rfl⟩ := hE
     have HTK1 := Lib.hid (HX.out rfl)
     clear HX HY
     go_wp2_with fail
     go_quiet (fail)
     have HB2 := Lib.hid (drewB HB1.out nq)
     go_wp2_with fail
     have HR : RowKit.Hid (sameRel a b w (.int .i64 ((k + 1 : Nat) : Int)) _) := Lib.hid ⟨k + 1, rfl, HK1.out, HTK1.out, HB2.out⟩
     refine ⟨?_, (by have := HML.out; simp [intOf]; try omega)⟩
     first
      | exact HR.out
      | (repeat apply Exists.intro
         refine ⟨?_, rfl⟩
         exact HR.out)
    ·have HF := Lib.hid (HY.out (fun e => hE (by simp only [Prod.mk.injEq] at e; exact e)))
     clear HX HY
     have hcs : xk ≠ yk ∨ (xk = yk ∧ xn ≠ yn) ∨ (xk = yk ∧ xn = yn ∧ xw ≠ yw) := by
      by_cases h1 : xk = yk
      ·by_cases h2 : xn = yn
       ·exact Or.inr (Or.inr ⟨h1, h2, fun h3 => hE ⟨h1, h2, h3⟩⟩)
       ·exact Or.inr (Or.inl ⟨h1, h2⟩)
      ·exact Or.inl h1
     clear hE
     rcases hcs with h1 | ⟨rfl, h2⟩ | ⟨rfl, rfl, h3⟩
     ·have f1 : ((xk : Int) == (yk : Int)) = false := by rw [beq_eq_false_iff_ne]; omega
      have f2 : (xk == yk) = false := by rw [beq_eq_false_iff_ne]; exact h1
      go_wp2_with fail
      go_quiet (fail)
      have HB2 := Lib.hid (drewB HB1.out nq)
      go_wp2_with fail
      exact HQ.out _ _ HF.out HB2.out
     ·have f1 : (xn == yn) = false := by rw [beq_eq_false_iff_ne]; exact h2
      go_wp2_with fail
      go_quiet (fail)
      have HB2 := Lib.hid (drewB HB1.out nq)
      go_wp2_with fail
      exact HQ.out _ _ HF.out HB2.out
     ·have f1 : (xw.toList == yw.toList) = false := by
       rw [beq_eq_false_iff_ne]; intro e
       rw [ByteArray.toList_eq, ByteArray.toList_eq] at e
       exact h3 (ByteArray.ext (Array.ext' e))
      go_wp2_with fail
      go_quiet (fail)
      have HB2 := Lib.hid (drewB HB1.out nq)
      go_wp2_with fail
      exact HQ.out _ _ HF.out HB2.out
   ·have hlt' : ¬ (k : Int) < a.length := by omega
    have HF : RowKit.Hid (TellsEq true a b) := Lib.hid ⟨fun _ => by
     have h := HTK.out
     have hl := HL.out
     rw [List.take_of_length_le (by omega), List.take_of_length_le (by omega)] at h
     exact h, fun _ => rfl⟩
    go_wp2_with fail
    exact HQ.out _ _ HF.out HB.out
 ·have hlb : ((a.length : Int) == (b.length : Int)) = false := by rw [beq_eq_false_iff_ne]; omega
  have hlc : ((a.length : Int) != (b.length : Int)) = true := by rw [bne_iff_ne]; omega
  have hld : (a.length != b.length) = true := by rw [bne_iff_ne]; exact hl
  have HF : RowKit.Hid (TellsEq false a b) := Lib.hid ⟨(fun e => by cases e), fun e => absurd (by rw [e]) hl⟩
  go_wp2_with fail
  exact HQ.out _ _ HF.out (Below.refl _ _)
end Go.Proofs.YtmklemelgdilkaaDoor
namespace Go.Proofs.YtmklemelgdilkaaDoor
set_option linter.all false
open Go.RowKit

def endI (o : Option Nat) : Int := match o with
 | some e => e
 | none => -1
def endRel (l : List Prt) (R : Option Nat) (w : World) (i n : Value) (wr : World) : Prop :=
 ∃ j m : Nat, i = .int .i64 (j : Int) ∧ n = .int .i64 (m : Int) ∧ j ≤ l.length ∧ m ≤ 1 + j * l.length ∧ endR l.length (l.drop j) m j = R ∧ wr = w
set_option maxRecDepth 100000 in
set_option maxHeartbeats 4000000 in
theorem ref_End11 (l : List Prt) (hl : l.length ≤ 1000000000) (v : Value) (i : Nat) (hi : i ≤ l.length) (w : World) (hr : PartRow w v l) :
  Calls Tryd.prog 11 #[v, .int .i64 (i : Int)] w fun e w' => e = .returned (.int .i64 (endI (endR l.length (l.drop i) 1 i))) ∧ w = w' := by
 have HQ : RowKit.Hid (∀ x, endR l.length (l.drop i) 1 i = x → (fun (e : Ending) w' => e = .returned (.int .i64 (endI (endR l.length (l.drop i) 1 i))) ∧ w = w') (.returned (.int .i64 (endI x))) w) := Lib.hid fun x h => ⟨by rw [h], rfl⟩
 generalize (fun (e : Ending) w' => e = .returned (.int .i64 (endI (endR l.length (l.drop i) 1 i))) ∧ w = w') = Q at *
 have HR := Lib.hid hr
 obtain ⟨va, vcap, rfl, hvc⟩ := hr.slice
 clear hr
 have HR0 : RowKit.Hid (endR l.length (l.drop i) 1 i = endR l.length (l.drop i) 1 i) := Lib.hid rfl
 generalize hRR : endR l.length (l.drop i) 1 i = R at *
 have HRR := Lib.hid hRR
 clear hRR HR0
 go_enter Tryd.func11, Tryd.ntmps11
 go_wp2_with fail
 go_loopw [1, 5] (fun i n wr => endRel l R w i n wr) (fun i _ _ => l.length - (intOf i).toNat)
 case atStart => exact ⟨i, 1, rfl, rfl, hi, by omega, HRR.out, rfl⟩
 case round =>
  obtain ⟨j, m, rfl, rfl, hj, hm, hE, rfl⟩ := hrel
  have HE := Lib.hid hE
  clear hE
  have hjl : j * l.length ≤ 1000000000000000000 := Nat.le_trans (Nat.mul_le_mul (show j ≤ 1000000000 by omega) hl) (by decide)
  have HM := Lib.hid hm
  have HJL := Lib.hid hjl
  have hmb : m ≤ 1000000000000000001 := by omega
  clear hm hjl
  by_cases hm0 : 0 < m
  ·have hm0' : (0 : Int) < m := by omega
   obtain ⟨n, rfl⟩ : ∃ n, m = n + 1 := ⟨m - 1, by omega⟩
   by_cases hlt : j < l.length
   ·have hlt' : (j : Int) < l.length := by omega
    obtain ⟨b, off, rfl, _, _, _, hcell⟩ := HR.out.at (Below.refl _ _) (show 0 < l.length by omega)
    have c0 := (hcell j hlt).2.1
    have hdr : l.drop j = l[j] :: l.drop (j + 1) := List.drop_eq_getElem_cons hlt
    have hst := HE.out
    rw [hdr, endR] at hst
    have hj0 : (0 : Int) ≤ j := by omega
    have hjn : ¬ (j : Int) < 0 := by omega
    have hjc : (j : Int) < vcap := by omega
    have hwj : IntKind.i64.wrap ((j : Int) + 1) = (j : Int) + 1 := by rw [IntKind.wrap_i64]; omega
    have hwn : IntKind.i64.wrap ((n : Int) + 1 - 1) = (n : Int) := by rw [IntKind.wrap_i64]; omega
    clear hcell hdr
    have HST := Lib.hid hst
    clear hst
    generalize (l[j]).2.1 = x at *
    by_cases hx0 : x < 0
    ·have hF : R = none := by rw [← HST.out, if_neg (by omega)]
     have HF := Lib.hid hF
     clear hF
     go_wp2_with fail
     exact HQ.out none HF.out
    ·by_cases hx1 : (l.length : Int) < x
     ·have hF : R = none := by rw [← HST.out, if_neg (by omega)]
      have HF := Lib.hid hF
      clear hF
      go_wp2_with fail
      exact HQ.out none HF.out
     ·have hG := HST.out
      rw [if_pos ⟨by omega, by omega⟩] at hG
      obtain ⟨q, rfl⟩ : ∃ q : Nat, x = q := ⟨x.toNat, by omega⟩
      rw [Int.toNat_natCast] at hG
      have hwq : IntKind.i64.wrap ((n : Int) + (q : Int)) = (n : Int) + (q : Int) := by rw [IntKind.wrap_i64]; omega
      have HRL : RowKit.Hid (endRel l R wr (.int .i64 ((j + 1 : Nat) : Int)) (.int .i64 ((n + q : Nat) : Int)) wr) := Lib.hid ⟨j + 1, n + q, rfl, rfl, hlt, by have := HM.out; rw [Nat.succ_mul]; omega, hG, rfl⟩
      have HML : RowKit.Hid (l.length - (j + 1) < l.length - j) := Lib.hid (by omega)
      clear hG HST
      go_wp2_with fail
      refine ⟨?_, (by have := HML.out; simp [intOf]; try omega)⟩
      first
       | exact HRL.out
       | (repeat apply Exists.intro
          refine ⟨?_, rfl⟩
          exact HRL.out)
   ·have hlt' : ¬ (j : Int) < l.length := by omega
    have hge : (l.length : Int) ≤ j := by omega
    have hjn : ¬ (j : Int) < 0 := by omega
    have hF : R = none := by rw [← HE.out, List.drop_of_length_le (by omega), endR]
    have HF := Lib.hid hF
    clear hF
    go_wp2_with fail
    exact HQ.out none HF.out
  ·obtain rfl : m = 0 := by omega
   have hF : R = some j := by rw [← HE.out, endR_zero]
   have HF := Lib.hid hF
   clear hF
   go_wp2_with fail
   exact HQ.out (some j) HF.out
set_option maxRecDepth 100000 in
theorem ref_Well11 (l : List Prt) (hl : l.length ≤ 1000000000) (v : Value) (w : World) (hr : PartRow w v l) :
  Calls Tryd.prog 10 #[v] w fun e w' => e = .returned (.bool (wellB l)) ∧ w = w' := by
 have HQ : RowKit.Hid (∀ x, wellB l = x → (fun (e : Ending) w' => e = .returned (.bool (wellB l)) ∧ w = w') (.returned (.bool x)) w) := Lib.hid fun x h => ⟨by rw [h], rfl⟩
 generalize (fun (e : Ending) w' => e = .returned (.bool (wellB l)) ∧ w = w') = Q at *
 have C1 := ref_End11 l hl v 0 (Nat.zero_le _) w hr
 rw [List.drop_zero] at C1
 have C1 := Lib.hid C1
 have hw := @well_endR l
 obtain ⟨va, vcap, rfl, hvc⟩ := hr.slice
 clear hr
 by_cases h0 : 0 < l.length
 ·have h0' : (0 : Int) < l.length := by omega
  go_enter Tryd.func10, Tryd.ntmps10
  go_wp2_with fail
  refine C1.out.mono ?_
  rintro e w1 ⟨rfl, rfl⟩
  cases hE : endR l.length l 1 0 with
  | none =>
   have HW : RowKit.Hid (wellB l = false) := Lib.hid (by
    cases g : wellB l with
    | false => rfl
    | true => rw [hE] at hw; have := (hw.2 g).2; cases this)
   have hb : ((-1 : Int) == (l.length : Int)) = false := by rw [beq_eq_false_iff_ne]; omega
   clear hw
   show _
   simp only [endI]
   go_wp2_with fail
   exact HQ.out _ HW.out
  | some x =>
   by_cases hx : x = l.length
   ·have HW : RowKit.Hid (wellB l = true) := Lib.hid (hw.1 ⟨h0, by rw [hE, hx]⟩)
    have hb : ((x : Int) == (l.length : Int)) = true := by rw [beq_iff_eq]; omega
    clear hw hE
    simp only [endI]
    generalize l.length = ll at *
    go_wp2_with fail
    exact HQ.out _ HW.out
   ·have HW : RowKit.Hid (wellB l = false) := Lib.hid (by
     cases g : wellB l with
     | false => rfl
     | true => rw [hE] at hw; have := (hw.2 g).2; cases this; exact absurd rfl hx)
    have hb : ((x : Int) == (l.length : Int)) = false := by rw [beq_eq_false_iff_ne]; omega
    clear hw hE
    simp only [endI]
    go_wp2_with fail
    exact HQ.out _ HW.out
 ·have h0' : ¬ (0 : Int) < l.length := by omega
  have HW : RowKit.Hid (wellB l = false) := Lib.hid (by
   cases g : wellB l with
   | false => rfl
   | true => exact absurd (hw.2 g).1 h0)
  clear hw
  go_enter Tryd.func10, Tryd.ntmps10
  go_wp2_with fail
  exact HQ.out _ HW.out
end Go.Proofs.YtmklemelgdilkaaDoor
