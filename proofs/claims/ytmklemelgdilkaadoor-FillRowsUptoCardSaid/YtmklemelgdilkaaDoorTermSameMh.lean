/- Layer 11: Same, the program's and the document's, walked. -/
import Derived.Test.YtmklemelgdilkaaDoorTermMh
namespace Go.Proofs.YtmklemelgdilkaaDoor
set_option linter.all false
open Go.RowKit

theorem drewB {B : Nat} {a w : World} (h : Below B a w) (n : Nat) : Below B a (w.drewN n) := ⟨h.os, h.tape, h.output, h.size, h.block⟩
def TellsEq (x : Bool) (a b : List Prt) : Prop := x = true ↔ a = b
def PK (W : World) (g : Nat) (p : Prt) : Prop := W.heap[g]? = some (.cells #[.int .u8 (p.1 : Int), .int .i64 p.2.1, .string p.2.2] 38 (0, 0))
theorem PK.c0 {W : World} {g : Nat} {p : Prt} (h : PK W g p) : W.cell? ⟨g, 0, none⟩ = some (.int .u8 (p.1 : Int)) := by unfold PK at h; simp [World.cell?, h]
theorem PK.c1 {W : World} {g : Nat} {p : Prt} (h : PK W g p) : W.cell? ⟨g, 1, none⟩ = some (.int .i64 p.2.1) := by unfold PK at h; simp [World.cell?, h]
theorem PK.c2 {W : World} {g : Nat} {p : Prt} (h : PK W g p) : W.cell? ⟨g, 2, none⟩ = some (.string p.2.2) := by unfold PK at h; simp [World.cell?, h]
theorem PK.fz {W : World} {g : Nat} {p : Prt} (h : PK W g p) (i : Nat) : W.frozen? ⟨g, i, none⟩ = false := by unfold PK at h; simp [World.frozen?, h]
theorem PK.keep {W W' : World} {g : Nat} {p : Prt} (h : PK W g p) (hb : Below W.heap.size W W') : PK W' g p := by unfold PK at h ⊢; rw [hb.block g (lt_of_block h)]; exact h
theorem PK.alloc_new (W : World) (p : Prt) : PK (W.alloc (.cells #[.int .u8 (p.1 : Int), .int .i64 p.2.1, .string p.2.2] 38)) W.heap.size p := by unfold PK; exact heap_alloc_new _ _
def sameRel (a b : List Prt) (w : World) (i : Value) (wr : World) : Prop := ∃ k : Nat, i = .int .i64 (k : Int) ∧ k ≤ a.length ∧ a.take k = b.take k ∧ Below w.heap.size w wr
set_option maxRecDepth 100000 in
set_option maxHeartbeats 8000000 in
theorem ref_Same11 (v1 v2 : Value) (a b : List Prt) (hla : a.length ≤ 1000000000) (hlb2 : b.length ≤ 1000000000) (w : World) (hr1 : PartRow w v1 a) (hr2 : PartRow w v2 b) :
  Calls Tryd.prog 13 #[v1, v2] w fun e w' => ∃ x, e = .returned (.bool x) ∧ TellsEq x a b ∧ Below w.heap.size w w' := by
 have HQ : RowKit.Hid (∀ x w', TellsEq x a b → Below w.heap.size w w' → (fun (e : Ending) w' => ∃ x, e = .returned (.bool x) ∧ TellsEq x a b ∧ Below w.heap.size w w') (.returned (.bool x)) w') := Lib.hid fun x w' h h2 => ⟨x, rfl, h, h2⟩
 generalize (fun (e : Ending) w' => ∃ x, e = .returned (.bool x) ∧ TellsEq x a b ∧ Below w.heap.size w w') = Q at *
 have HR1 := Lib.hid hr1
 have HR2 := Lib.hid hr2
 obtain ⟨a1, cap1, rfl, hcap1⟩ := hr1.slice
 obtain ⟨a2, cap2, rfl, hcap2⟩ := hr2.slice
 clear hr1 hr2
 go_enter Tryd.func13, Tryd.ntmps13
 by_cases hl : a.length = b.length
 ·have hlb : ((a.length : Int) == (b.length : Int)) = true := by rw [beq_iff_eq]; omega
  have hlc : ((a.length : Int) != (b.length : Int)) = false := by rw [bne_eq_false_iff_eq]; omega
  have hld : (a.length != b.length) = false := by rw [bne_eq_false_iff_eq]; exact hl
  have HL := Lib.hid hl
  clear hl
  go_wp2_with fail
  go_loopw [5] (fun i wr => sameRel a b w i wr) (fun i _ => a.length - (intOf i).toNat)
  case atStart => exact ⟨0, rfl, Nat.zero_le _, rfl, Below.refl _ _⟩
  case round =>
   obtain ⟨k, rfl, hk, htk, hb⟩ := hrel
   have HB := Lib.hid hb
   have HTK := Lib.hid htk
   clear hb htk
   by_cases hlt : k < a.length
   ·have hlt' : (k : Int) < a.length := by omega
    have hkb : k < b.length := by have := HL.out; omega
    obtain ⟨b1, o1, rfl, _, _, _, hc1⟩ := HR1.out.at HB.out (show 0 < a.length by omega)
    obtain ⟨b2, o2, rfl, _, _, _, hc2⟩ := HR2.out.at HB.out (show 0 < b.length by omega)
    obtain ⟨d0, d1, d2⟩ := hc1 k hlt
    obtain ⟨e0, e1, e2⟩ := hc2 k hkb
    have hk0 : (0 : Int) ≤ k := by omega
    have hlt2 : (k : Int) < b.length := by omega
    have hkc1 : (k : Int) < cap1 := by omega
    have hkc2 : (k : Int) < cap2 := by omega
    have hwk : IntKind.i64.wrap ((k : Int) + 1) = ((k + 1 : Nat) : Int) := by rw [IntKind.wrap_i64]; omega
    have HK1 : RowKit.Hid (k + 1 ≤ a.length) := Lib.hid hlt
    have HML : RowKit.Hid (a.length - (k + 1) < a.length - k) := Lib.hid (by omega)
    have HX := Lib.hid (fun (h : a[k] = b[k]) => show a.take (k + 1) = b.take (k + 1) by
     rw [List.take_succ_eq_append_getElem hlt, List.take_succ_eq_append_getElem hkb, HTK.out]; exact congrArg (fun z => List.take k b ++ [z]) h)
    have HY := Lib.hid (fun (h : a[k] ≠ b[k]) => show TellsEq false a b from ⟨(fun e => by cases e), fun e => absurd (by subst e; rfl) h⟩)
    clear hc1 hc2
    generalize a[k] = x at *
    generalize hye : b[k] = y at *
    have HYE := Lib.hid hye
    clear hye
    obtain ⟨xk, xn, xw⟩ := x
    obtain ⟨yk, yn, yw⟩ := y
    simp only [] at d0 d1 d2 e0 e1 e2
    have HB1 := HB
    by_cases hE : xk = yk ∧ xn = yn ∧ xw = yw
    ·obtain ⟨rfl, rfl, rfl⟩ := hE
     have HTK1 := Lib.hid (HX.out rfl)
     clear HX HY
     go_wp2_with fail
     go_quiet (fail)
     have HB2 := Lib.hid (drewB HB1.out nq)
     go_wp2_with fail
     have HR : RowKit.Hid (sameRel a b w (.int .i64 ((k + 1 : Nat) : Int)) _) := Lib.hid ⟨k + 1, rfl, HK1.out, HTK1.out, HB2.out⟩
     refine ⟨?_, (by have := HML.out; simp [intOf]; try omega)⟩
     first
      | exact HR.out
      | (repeat apply Exists.intro
         refine ⟨?_, rfl⟩
         exact HR.out)
    ·have HF := Lib.hid (HY.out (fun e => hE (by simp only [Prod.mk.injEq] at e; exact e)))
     clear HX HY
     have hcs : xk ≠ yk ∨ (xk = yk ∧ xn ≠ yn) ∨ (xk = yk ∧ xn = yn ∧ xw ≠ yw) := by
      by_cases h1 : xk = yk
      ·by_cases h2 : xn = yn
       ·exact Or.inr (Or.inr ⟨h1, h2, fun h3 => hE ⟨h1, h2, h3⟩⟩)
       ·exact Or.inr (Or.inl ⟨h1, h2⟩)
      ·exact Or.inl h1
     clear hE
     rcases hcs with h1 | ⟨rfl, h2⟩ | ⟨rfl, rfl, h3⟩
     ·have f1 : ((xk : Int) == (yk : Int)) = false := by rw [beq_eq_false_iff_ne]; omega
      have f2 : (xk == yk) = false := by rw [beq_eq_false_iff_ne]; exact h1
      go_wp2_with fail
      go_quiet (fail)
      have HB2 := Lib.hid (drewB HB1.out nq)
      go_wp2_with fail
      exact HQ.out _ _ HF.out HB2.out
     ·have f1 : (xn == yn) = false := by rw [beq_eq_false_iff_ne]; exact h2
      go_wp2_with fail
      go_quiet (fail)
      have HB2 := Lib.hid (drewB HB1.out nq)
      go_wp2_with fail
      exact HQ.out _ _ HF.out HB2.out
     ·have f1 : (xw.toList == yw.toList) = false := by
       rw [beq_eq_false_iff_ne]; intro e
       rw [ByteArray.toList_eq, ByteArray.toList_eq] at e
       exact h3 (ByteArray.ext (Array.ext' e))
      go_wp2_with fail
      go_quiet (fail)
      have HB2 := Lib.hid (drewB HB1.out nq)
      go_wp2_with fail
      exact HQ.out _ _ HF.out HB2.out
   ·have hlt' : ¬ (k : Int) < a.length := by omega
    have HF : RowKit.Hid (TellsEq true a b) := Lib.hid ⟨fun _ => by
     have h := HTK.out
     have hl := HL.out
     rw [List.take_of_length_le (by omega), List.take_of_length_le (by omega)] at h
     exact h, fun _ => rfl⟩
    go_wp2_with fail
    exact HQ.out _ _ HF.out HB.out
 ·have hlb : ((a.length : Int) == (b.length : Int)) = false := by rw [beq_eq_false_iff_ne]; omega
  have hlc : ((a.length : Int) != (b.length : Int)) = true := by rw [bne_iff_ne]; omega
  have hld : (a.length != b.length) = true := by rw [bne_iff_ne]; exact hl
  have HF : RowKit.Hid (TellsEq false a b) := Lib.hid ⟨(fun e => by cases e), fun e => absurd (by rw [e]) hl⟩
  go_wp2_with fail
  exact HQ.out _ _ HF.out (Below.refl _ _)
end Go.Proofs.YtmklemelgdilkaaDoor
