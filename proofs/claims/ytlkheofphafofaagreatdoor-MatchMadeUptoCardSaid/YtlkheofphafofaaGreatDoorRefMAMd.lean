/- Layers 16, 17, 18: the references' small functions, walked. -/
import Derived.Test.YtlkheofphafofaaGreatDoorRulesVMd
import Derived.Test.YtlkheofphafofaaGreatDoorRuleCheckMd
import Derived.Test.YtlkheofphafofaaGreatDoorMapUMd
import Derived.BigQuiet
import Derived.Deep.QuietTactic
namespace Go.Proofs.YtlkheofphafofaaGreatDoor
set_option linter.all false
attribute [local irreducible] Calls
open Go.RowKit

@[irreducible] def AnyInt (w0 : World) (e : Ending) (w' : World) : Prop := ∃ z : Int, e = .returned (.int .i64 z) ∧ Below w0.heap.size w0 w'
@[irreducible] def AnyBool (w0 : World) (e : Ending) (w' : World) : Prop := ∃ x : Bool, e = .returned (.bool x) ∧ Below w0.heap.size w0 w'
theorem AnyInt.mk {w0 w' : World} (z : Int) (h : Below w0.heap.size w0 w') : AnyInt w0 (.returned (.int .i64 z)) w' := by unfold AnyInt; exact ⟨z, rfl, h⟩
theorem AnyBool.mk {w0 w' : World} (x : Bool) (h : Below w0.heap.size w0 w') : AnyBool w0 (.returned (.bool x)) w' := by unfold AnyBool; exact ⟨x, rfl, h⟩
theorem AnyInt.out {w0 w' : World} {e : Ending} (h : AnyInt w0 e w') : ∃ z : Int, e = .returned (.int .i64 z) ∧ Below w0.heap.size w0 w' := by unfold AnyInt at h; exact h
theorem AnyBool.out {w0 w' : World} {e : Ending} (h : AnyBool w0 e w') : ∃ x : Bool, e = .returned (.bool x) ∧ Below w0.heap.size w0 w' := by unfold AnyBool at h; exact h
set_option maxRecDepth 100000 in
set_option maxHeartbeats 4000000 in
theorem ref_Several (s : ByteArray) (k : Nat) (w : World) :
  Calls Tryz.prog 22 #[.agg #[.string s, .int .u8 (k : Int)]] w fun e w' => e = .returned (.bool (isSev k)) ∧ Below w.heap.size w w' := by
 have HX := Lib.hid ((Below.refl w.heap.size w).alloc (Nat.le_refl _) (.cells #[.string s, .int .u8 (k : Int)] 43))
 have HQ : RowKit.Hid (∀ x w', isSev k = x → Below w.heap.size w w' → (fun (e : Ending) w' => e = .returned (.bool (isSev k)) ∧ Below w.heap.size w w') (.returned (.bool x)) w') := Lib.hid fun x w' h hb => ⟨by rw [h], hb⟩
 generalize (fun (e : Ending) w' => e = .returned (.bool (isSev k)) ∧ Below w.heap.size w w') = Q at *
 by_cases h6 : k = 6
 ·subst h6
  have HZ := Lib.hid (HQ.out true _ rfl HX.out)
  go_enter Tryz.func22, Tryz.ntmps22
  go_wp2_with fail
  exact HZ.out
 by_cases h7 : k = 7
 ·subst h7
  have HZ := Lib.hid (HQ.out true _ rfl HX.out)
  go_enter Tryz.func22, Tryz.ntmps22
  go_wp2_with fail
  exact HZ.out
 have g6 : ((k : Int) == 6) = false := by rw [beq_eq_false_iff_ne]; omega
 have g7 : ((k : Int) == 7) = false := by rw [beq_eq_false_iff_ne]; omega
 have HZ := Lib.hid (HQ.out false _ (by unfold isSev; simp [h6, h7]) HX.out)
 clear h6 h7
 go_enter Tryz.func22, Tryz.ntmps22
 go_wp2_with fail
 exact HZ.out
def wdRel (l : List Prt) (w : World) (nv iv : Value) (wr : World) : Prop := ∃ k : Nat, iv = .int .i64 (k : Int) ∧ nv = .int .i64 (widest (l.take k)) ∧ k ≤ l.length ∧ wr = w
theorem widest_snoc {l : List Prt} {k : Nat} (hk : k < l.length) : widest (l.take (k + 1)) = max (widest (l.take k)) (l[k]).2.1 := by
 rw [take_snoc hk]; unfold widest; rw [List.foldl_append]; rfl
set_option maxRecDepth 100000 in
set_option maxHeartbeats 4000000 in
theorem ref_Widest (l : List Prt) (hl : l.length ≤ 1048576) (v : Value) (w : World) (hr : PartRow w v l) :
  Calls Tryz.prog 41 #[v] w fun e w' => e = .returned (.int .i64 (widest l)) ∧ w = w' := by
 have HR := Lib.hid hr
 obtain ⟨va, vc, rfl, hvc⟩ := hr.slice
 clear hr
 go_enter Tryz.func41, Tryz.ntmps41
 go_wp2_with fail
 go_loopw [3, 4] (fun nv iv wr => wdRel l w nv iv wr) (fun _ iv _ => l.length - (intOf iv).toNat)
 case atStart => exact ⟨0, rfl, rfl, Nat.zero_le _, rfl⟩
 case round =>
  obtain ⟨k, rfl, rfl, hk, rfl⟩ := hrel
  by_cases hlt : k < l.length
  ·obtain ⟨b, off, rfl, _, _, hbl, hcell⟩ := HR.out.at (Below.refl _ _) (show 0 < l.length by omega)
   obtain ⟨d0, d1, d2⟩ := hcell k hlt
   have hk0 : (0 : Int) ≤ (k : Int) := by omega
   have hkl : (k : Int) < l.length := by omega
   have hkc : (k : Int) < vc := by omega
   have HX : RowKit.Hid (wdRel l wr (.int .i64 (max (widest (l.take k)) (l[k]).2.1)) (.int .i64 ((k : Int) + 1)) wr) := Lib.hid ⟨k + 1, by push_cast; rfl, by rw [widest_snoc hlt], hlt, rfl⟩
   clear hcell d0 d2
   generalize (l[k]).2.1 = c at *
   generalize widest (l.take k) = m at *
   go_wp2_with fail
   exact ⟨HX.out, by simp only [intOf]; omega⟩
  ·obtain rfl : k = l.length := by omega
   rw [List.take_length]
   go_wp2_with fail
   go_ret
   exact ⟨rfl, rfl⟩
def wyRel (n : Nat) (W0 : World) (nv iv : Value) (wr : World) : Prop := ∃ (k : Nat) (z : Int), iv = .int .i64 (k : Int) ∧ nv = .int .i64 z ∧ k ≤ n ∧ Below W0.heap.size W0 wr
set_option maxRecDepth 100000 in
set_option maxHeartbeats 4000000 in
theorem ref_Ways17 (r : RuleM) (hh : r.holes.length ≤ 1048576) (vh vf vb : Value) (l : List Prt) (hl : l.length ≤ 1048576) (vl : Value) (w : World) (hr : RuleIn w r vh vf vb) (hlr : PartRow w vl l) :
  Calls Tryz.prog 15 #[ruleAgg r vh vf vb, vl] w (AnyInt w) := by
 obtain ⟨ah, ch, rfl, hch⟩ := Row.shape hr.H
 obtain ⟨af, cf, rfl, hcf⟩ := hr.F.slice
 obtain ⟨ab, cb, rfl, hcb⟩ := hr.B.slice
 obtain ⟨al, cl, rfl, hcl⟩ := hlr.slice
 have HQ : RowKit.Hid (∀ z w', Below w.heap.size w w' → AnyInt w (.returned (.int .i64 z)) w') := Lib.hid fun z w' hb => AnyInt.mk z hb
 generalize AnyInt w = Q at *
 unfold ruleAgg
 have HR1 : RowKit.Hid (RK (w.alloc (.cells #[.string r.nm, .int .u8 (r.goal : Int), .slice ah r.holes.length ch, .slice af r.fnd.length cf, .slice ab r.by'.length cb] 25)) w.heap.size r.nm r.goal (.slice ah r.holes.length ch) (.slice af r.fnd.length cf) (.slice ab r.by'.length cb)) := Lib.hid (heap_alloc_new _ _)
 have HB1 : RowKit.Hid (Below w.heap.size w (w.alloc (.cells #[.string r.nm, .int .u8 (r.goal : Int), .slice ah r.holes.length ch, .slice af r.fnd.length cf, .slice ab r.by'.length cb] 25))) := Lib.hid ((Below.refl _ _).alloc (Nat.le_refl _) _)
 have HH := Lib.hid hr.H
 have HLR := Lib.hid hlr
 clear hr hlr
 go_enter Tryz.func15, Tryz.ntmps15
 go_wp2_with fail
 generalize w.alloc (.cells #[.string r.nm, .int .u8 (r.goal : Int), .slice ah r.holes.length ch, .slice af r.fnd.length cf, .slice ab r.by'.length cb] 25) = W0 at *
 go_loopw [5, 6] (fun nv iv wr => wyRel r.holes.length W0 nv iv wr) (fun _ iv _ => r.holes.length - (intOf iv).toNat)
 case atStart => exact ⟨0, 1, rfl, rfl, Nat.zero_le _, Below.refl _ _⟩
 case round =>
  obtain ⟨k, z, rfl, rfl, hk, hb⟩ := hrel
  have HB := Lib.hid hb
  clear hb
  obtain ⟨e0, e1, e2, e3, e4⟩ := (HR1.out.below HB.out).cells
  by_cases hlt : k < r.holes.length
  ·by_cases hz : z < 1000000
   ·obtain ⟨b, off, rfl, _, _, hbl, hcell⟩ := HH.out.at (bthen HB1.out HB.out) (show 0 < r.holes.length by omega)
    obtain ⟨d0, d1⟩ := hcell k hlt
    have hk0 : (0 : Int) ≤ (k : Int) := by omega
    have hkl : (k : Int) < r.holes.length := by omega
    have hkc : (k : Int) < ch := by omega
    generalize r.holes[k] = y at *
    obtain ⟨yn, yk⟩ := y
    simp only [] at d0 d1
    have CS := Lib.hid (ref_Several yn yk wr)
    clear hcell
    go_wp2_with fail
    refine CS.out.mono ?_
    rintro e w2 ⟨rfl, hb2⟩
    have HB2 := Lib.hid (bthen HB.out hb2)
    clear hb2 CS e0 e1 e2 e3 e4 d0 d1
    cases hs : isSev yk with
    | false =>
     go_wp2_with fail
     exact ⟨⟨k + 1, z, by push_cast; rfl, rfl, hlt, HB2.out⟩, by simp only [intOf]; omega⟩
    | true =>
     have CW := Lib.hid (ref_Widest l hl _ w2 (HLR.out.below (bthen HB1.out HB2.out)))
     go_wp2_with fail
     refine CW.out.mono ?_
     rintro e w3 ⟨rfl, rfl⟩
     generalize widest l = m
     go_wp2_with fail
     all_goals exact ⟨⟨k + 1, _, by push_cast; rfl, rfl, hlt, HB2.out⟩, by simp only [intOf]; omega⟩
   ·have hz' : ¬ z < 1000000 := hz
    have HX := Lib.hid (HQ.out z wr (bthen HB1.out HB.out))
    have hkl : (k : Int) < r.holes.length := by omega
    go_wp2_with fail
    exact HX.out
  ·obtain rfl : k = r.holes.length := by omega
   have HX := Lib.hid (HQ.out z wr (bthen HB1.out HB.out))
   go_wp2_with fail
   exact HX.out
def TellsB (x : Bool) (a b : List Bnd) : Prop := x = true ↔ a = b
def sbRel (a b : List Bnd) (w : World) (iv : Value) (wr : World) : Prop := ∃ k : Nat, iv = .int .i64 (k : Int) ∧ k ≤ a.length ∧ a.take k = b.take k ∧ Below w.heap.size w wr
set_option maxRecDepth 100000 in
set_option maxHeartbeats 4000000 in
theorem ref_SameBinds (a b : List Bnd) (ha : a.length ≤ 1048576) (hb : b.length ≤ 1048576) (va vb : Value) (w : World) (h1 : BindRow w va a) (h2 : BindRow w vb b) :
  Calls Tryz.prog 13 #[va, vb] w fun e w' => ∃ x, e = .returned (.bool x) ∧ TellsB x a b ∧ Below w.heap.size w w' := by
 have HQ : RowKit.Hid (∀ x w', TellsB x a b → Below w.heap.size w w' → (fun (e : Ending) w' => ∃ x, e = .returned (.bool x) ∧ TellsB x a b ∧ Below w.heap.size w w') (.returned (.bool x)) w') := Lib.hid fun x w' h h2 => ⟨x, rfl, h, h2⟩
 generalize (fun (e : Ending) w' => ∃ x, e = .returned (.bool x) ∧ TellsB x a b ∧ Below w.heap.size w w') = Q at *
 obtain ⟨aa, ac, rfl, hac⟩ := Row.shape h1
 obtain ⟨ba, bc, rfl, hbc⟩ := Row.shape h2
 have H1 := Lib.hid h1
 have H2 := Lib.hid h2
 clear h1 h2
 by_cases hlen : a.length = b.length
 case neg =>
  have HX := Lib.hid (HQ.out false w ⟨(fun h => by cases h), fun h => absurd (congrArg List.length h) hlen⟩ (Below.refl _ _))
  have g1 : ((a.length : Int) != (b.length : Int)) = true := by rw [bne_iff_ne]; omega
  have g2 : (a.length != b.length) = true := by rw [bne_iff_ne]; exact hlen
  have g3 : (a.length == b.length) = false := by rw [beq_eq_false_iff_ne]; exact hlen
  clear hlen
  go_enter Tryz.func13, Tryz.ntmps13
  go_wp2_with fail
  exact HX.out
 have HLEN := Lib.hid hlen
 have H2' : RowKit.Hid (BindRow w (.slice ba a.length bc) b) := Lib.hid (by rw [hlen]; exact H2.out)
 rw [← hlen]
 clear H2
 rw [← hlen] at hbc
 clear hlen
 go_enter Tryz.func13, Tryz.ntmps13
 go_wp2_with fail
 go_loopw [5] (fun iv wr => sbRel a b w iv wr) (fun iv _ => a.length - (intOf iv).toNat)
 case atStart => exact ⟨0, rfl, Nat.zero_le _, rfl, Below.refl _ _⟩
 case round =>
  obtain ⟨k, rfl, hk, htk, hbl⟩ := hrel
  have HB := Lib.hid hbl
  have HTK := Lib.hid htk
  clear hbl htk
  by_cases hlt : k < a.length
  ·have hlb : k < b.length := by have := HLEN.out; omega
   obtain ⟨b1, o1, rfl, _, _, _, hc1⟩ := BindRow.at H1.out HB.out (show 0 < a.length by omega)
   obtain ⟨b2, o2, rfl, hxx, _, _, hc2⟩ := BindRow.at H2'.out HB.out (show 0 < b.length by omega)
   clear hxx
   obtain ⟨c0, c1, c2⟩ := hc1 k hlt
   obtain ⟨d0, d1, d2⟩ := hc2 k hlb
   have hk0 : (0 : Int) ≤ (k : Int) := by omega
   have hkl : (k : Int) < a.length := by omega
   have hka : (k : Int) < ac := by omega
   have hkb : (k : Int) < bc := by omega
   have HYES : RowKit.Hid (a[k] = b[k] → a.take (k + 1) = b.take (k + 1)) := Lib.hid (fun e => by rw [take_snoc hlt, take_snoc hlb, HTK.out, e])
   have HNO : RowKit.Hid (a[k] ≠ b[k] → a ≠ b) := Lib.hid (fun e h => by subst h; exact e rfl)
   have HBD := Lib.hid HB.out.drew
   generalize a[k] = x at *
   generalize b[k] = y at *
   obtain ⟨xn, xf, xt⟩ := x
   obtain ⟨yn, yf, yt⟩ := y
   simp only [] at c0 c1 c2 d0 d1 d2
   clear hc1 hc2
   by_cases hE : xn = yn ∧ xf = yf ∧ xt = yt
   ·obtain ⟨rfl, rfl, rfl⟩ := hE
    have HTK1 := Lib.hid (HYES.out rfl)
    clear HYES HNO
    go_wp2_with fail
    go_quiet (fail)
    have HB2 := Lib.hid (drewB HB.out nq)
    have HR : RowKit.Hid (sbRel a b w (.int .i64 ((k : Int) + 1)) (wr.drewN nq)) := Lib.hid ⟨k + 1, by push_cast; rfl, hlt, HTK1.out, HB2.out⟩
    go_wp2_with fail
    exact ⟨HR.out, by simp only [intOf]; omega⟩
   ·have HF : RowKit.Hid (TellsB false a b) := Lib.hid ⟨(fun e => by cases e), fun e => absurd e (HNO.out (fun e2 => hE (by simp only [Prod.mk.injEq] at e2; exact e2)))⟩
    clear HYES HNO
    have hcs : xn ≠ yn ∨ (xn = yn ∧ xf ≠ yf) ∨ (xn = yn ∧ xf = yf ∧ xt ≠ yt) := by
     by_cases q1 : xn = yn
     ·by_cases q2 : xf = yf
      ·exact Or.inr (Or.inr ⟨q1, q2, fun q3 => hE ⟨q1, q2, q3⟩⟩)
      ·exact Or.inr (Or.inl ⟨q1, q2⟩)
     ·exact Or.inl q1
    clear hE
    rcases hcs with q1 | ⟨rfl, q2⟩ | ⟨rfl, rfl, q3⟩
    ·have f1 : (xn.toList == yn.toList) = false := by rw [beq_eq_false_iff_ne]; exact pl_bytes_ne q1
     go_wp2_with fail
     go_quiet (fail)
     have HX := Lib.hid (HQ.out _ _ HF.out (drewB HB.out nq))
     go_wp2_with fail
     exact HX.out
    ·have f1 : (xf == yf) = false := by rw [beq_eq_false_iff_ne]; exact q2
     go_wp2_with fail
     go_quiet (fail)
     have HX := Lib.hid (HQ.out _ _ HF.out (drewB HB.out nq))
     go_wp2_with fail
     exact HX.out
    ·have f1 : (xt == yt) = false := by rw [beq_eq_false_iff_ne]; exact q3
     go_wp2_with fail
     go_quiet (fail)
     have HX := Lib.hid (HQ.out _ _ HF.out (drewB HB.out nq))
     go_wp2_with fail
     exact HX.out
  ·have hkl : ¬ (k : Int) < a.length := by omega
   obtain rfl : k = a.length := by omega
   have HX := Lib.hid (HQ.out true wr ⟨fun _ => by have := HTK.out; rw [List.take_length, HLEN.out, List.take_length] at this; exact this, fun _ => rfl⟩ HB.out)
   go_wp2_with fail
   exact HX.out
end Go.Proofs.YtlkheofphafofaaGreatDoor
namespace Go.Proofs.YtlkheofphafofaaGreatDoor
set_option linter.all false
attribute [local irreducible] Calls
open Go.RowKit

def grRel (n : Nat) (W0 : World) (nv iv : Value) (wr : World) : Prop := ∃ (k : Nat) (z : Int), iv = .int .i64 (k : Int) ∧ nv = .int .i64 z ∧ k ≤ n ∧ Below W0.heap.size W0 wr
set_option maxRecDepth 100000 in
set_option maxHeartbeats 16000000 in
theorem ref_Great (rs : List RuleX) (hs : ∀ x ∈ rs, SmallR x.1) (hn : rs.length ≤ 1048576) (vr : Value) (most : Int) (w : World) (hr : RulesIn w vr rs) :
  Calls Tryz.prog 14 #[vr, .int .i64 most] w (AnyBool w) := by
 obtain ⟨ar, cr, rfl, hcr⟩ := hr.shape
 have HQ : RowKit.Hid (∀ z w', Below w.heap.size w w' → AnyBool w (.returned (.bool z)) w') := Lib.hid fun z w' hb => AnyBool.mk z hb
 generalize AnyBool w = Q at *
 have HS := Lib.hid hs
 have HR := Lib.hid hr
 clear hr hs
 go_enter Tryz.func14, Tryz.ntmps14
 go_wp2_with fail
 go_loopw [5, 6] (fun nv iv wr => grRel rs.length w nv iv wr) (fun _ iv _ => rs.length - (intOf iv).toNat)
 case atStart => exact ⟨0, 0, rfl, rfl, Nat.zero_le _, Below.refl _ _⟩
 case round =>
  obtain ⟨k, z, rfl, rfl, hk, hb⟩ := hrel
  have HB := Lib.hid hb
  clear hb
  by_cases hlt : k < rs.length
  case neg =>
   obtain rfl : k = rs.length := by omega
   have HX := Lib.hid (fun x => HQ.out x wr HB.out)
   go_wp2_with fail
   exact HX.out _
  by_cases hz : z ≤ most
  case neg =>
   have hkl : (k : Int) < rs.length := by omega
   have HX := Lib.hid (fun x => HQ.out x wr HB.out)
   go_wp2_with fail
   exact HX.out _
  have hk0 : (0 : Int) ≤ (k : Int) := by omega
  have hkl : (k : Int) < rs.length := by omega
  have hkc : (k : Int) < cr := by omega
  have hin := HR.out.E _ (List.getElem_mem hlt)
  have hsm := HS.out _ (List.getElem_mem hlt)
  obtain ⟨b, off, rfl, _, _, hbl, hcell⟩ := HR.out.at HB.out (show 0 < rs.length by omega)
  have hc := hcell k hlt
  have HC : RowKit.Hid (∀ W, Below w.heap.size w W → W.cell? ⟨b, off + k * 5, none⟩ = some (.string (rs[k]).1.nm) ∧ W.cell? ⟨b, off + k * 5 + 2, none⟩ = some (rs[k]).2.1 ∧ W.cell? ⟨b, off + k * 5 + 3, none⟩ = some (rs[k]).2.2.1 ∧ W.cell? ⟨b, off + k * 5 + 4, none⟩ = some (rs[k]).2.2.2) := Lib.hid fun W hW => by
   obtain ⟨b', off', e, _, _, _, hc2⟩ := HR.out.at hW (show 0 < rs.length by omega)
   cases e
   obtain ⟨c0, _, c2, c3, c4⟩ := hc2 k hlt
   exact ⟨c0, c2, c3, c4⟩
  clear hcell hc
  generalize rs[k] = x at *
  obtain ⟨r, vh, vf, vb⟩ := x
  simp only [] at hin hsm HC
  obtain ⟨ah, ch, rfl, hch⟩ := Row.shape hin.H
  obtain ⟨af, cf, rfl, hcf⟩ := hin.F.slice
  obtain ⟨ab, cb, rfl, hcb⟩ := hin.B.slice
  have HIN := Lib.hid hin
  have HSM := Lib.hid hsm
  have hlh := hsm.h.1
  have hlf := hsm.f.1
  have hlb := hsm.b.1
  have hln := hsm.n
  clear hin hsm
  obtain ⟨c0, c2, c3, c4⟩ := HC.out _ HB.out
  go_upto_region 5 with (fail)
  go_quiet (fail)
  have HB1 := Lib.hid (drewB HB.out nq)
  clear c0 c2 c3 c4
  generalize wr.drewN nq = w1 at *
  go_wp2_with fail
  go_loopw [5, 7] (fun nv iv wr => grRel r.holes.length w nv iv wr) (fun _ iv _ => r.holes.length - (intOf iv).toNat)
  case atStart => exact ⟨0, _, rfl, rfl, Nat.zero_le _, HB1.out⟩
  case round =>
   obtain ⟨j1, z1, rfl, rfl, hj1, hb1⟩ := hrel
   have HBX := Lib.hid hb1
   clear hb1
   obtain ⟨c0, c2, c3, c4⟩ := HC.out _ HBX.out
   by_cases hlt1 : j1 < r.holes.length
   ·by_cases hzz : z1 ≤ most
    ·have hq0 : (0 : Int) ≤ (j1 : Int) := by omega
     have hql : (j1 : Int) < r.holes.length := by omega
     have hqc : (j1 : Int) < ch := by omega
     obtain ⟨b1, o1, rfl, _, _, _, hcc⟩ := HIN.out.H.at HBX.out (show 0 < r.holes.length by omega)
     have hd := hcc j1 hlt1
     have hsz := HSM.out.h.2 _ (List.getElem_mem hlt1)
     generalize (r.holes[j1]) = y at *
     obtain ⟨yn, yk⟩ := y
     simp only [] at hd hsz
     obtain ⟨d0, d1⟩ := hd
     obtain ⟨s0, s1⟩ := hsz
     clear hcc
     go_wp2_with fail
     all_goals exact ⟨⟨j1 + 1, _, by push_cast; rfl, rfl, hlt1, HBX.out⟩, by simp only [intOf]; omega⟩
    ·have hql : (j1 : Int) < r.holes.length := by omega
     go_wp2_with fail
     go_loopw [5, 8] (fun nv iv wr => grRel r.fnd.length w nv iv wr) (fun _ iv _ => r.fnd.length - (intOf iv).toNat)
     case atStart => exact ⟨0, _, rfl, rfl, Nat.zero_le _, HBX.out⟩
     case round =>
      obtain ⟨j2, z2, rfl, rfl, hj2, hb2⟩ := hrel
      have HBX := Lib.hid hb2
      clear hb2
      obtain ⟨c0, c2, c3, c4⟩ := HC.out _ HBX.out
      by_cases hlt2 : j2 < r.fnd.length
      ·by_cases hzz : z2 ≤ most
       ·have hq0 : (0 : Int) ≤ (j2 : Int) := by omega
        have hql : (j2 : Int) < r.fnd.length := by omega
        have hqc : (j2 : Int) < cf := by omega
        obtain ⟨b2, o2, rfl, _, _, _, hcc⟩ := HIN.out.F.at HBX.out (show 0 < r.fnd.length by omega)
        have hd := hcc j2 hlt2
        have hsz := HSM.out.f.2 _ (List.getElem_mem hlt2)
        generalize (r.fnd[j2]) = y at *
        obtain ⟨yk, yn, yw⟩ := y
        simp only [] at hd hsz
        obtain ⟨d0, d1, d2⟩ := hd
        obtain ⟨s0, s1⟩ := hsz
        clear hcc
        go_wp2_with fail
        all_goals exact ⟨⟨j2 + 1, _, by push_cast; rfl, rfl, hlt2, HBX.out⟩, by simp only [intOf]; omega⟩
       ·have hql : (j2 : Int) < r.fnd.length := by omega
        go_wp2_with fail
        go_loopw [5, 9] (fun nv iv wr => grRel r.by'.length w nv iv wr) (fun _ iv _ => r.by'.length - (intOf iv).toNat)
        case atStart => exact ⟨0, _, rfl, rfl, Nat.zero_le _, HBX.out⟩
        case round =>
         obtain ⟨j3, z3, rfl, rfl, hj3, hb3⟩ := hrel
         have HBX := Lib.hid hb3
         clear hb3
         obtain ⟨c0, c2, c3, c4⟩ := HC.out _ HBX.out
         by_cases hlt3 : j3 < r.by'.length
         ·by_cases hzz : z3 ≤ most
          ·have hq0 : (0 : Int) ≤ (j3 : Int) := by omega
           have hql : (j3 : Int) < r.by'.length := by omega
           have hqc : (j3 : Int) < cb := by omega
           obtain ⟨b3, o3, rfl, _, _, _, hcc⟩ := HIN.out.B.at HBX.out (show 0 < r.by'.length by omega)
           have hd := hcc j3 hlt3
           have hsz := HSM.out.b.2 _ (List.getElem_mem hlt3)
           generalize (r.by'[j3]) = y at *
           obtain ⟨yk, yn, yw⟩ := y
           simp only [] at hd hsz
           obtain ⟨d0, d1, d2⟩ := hd
           obtain ⟨s0, s1⟩ := hsz
           clear hcc
           go_wp2_with fail
           all_goals exact ⟨⟨j3 + 1, _, by push_cast; rfl, rfl, hlt3, HBX.out⟩, by simp only [intOf]; omega⟩
          ·have hql : (j3 : Int) < r.by'.length := by omega
           go_wp2_with fail
           exact ⟨⟨k + 1, _, by push_cast; rfl, rfl, hlt, HBX.out⟩, by simp only [intOf]; omega⟩
         ·obtain rfl : j3 = r.by'.length := by omega
          go_wp2_with fail
          exact ⟨⟨k + 1, _, by push_cast; rfl, rfl, hlt, HBX.out⟩, by simp only [intOf]; omega⟩
      ·obtain rfl : j2 = r.fnd.length := by omega
       go_wp2_with fail
       go_loopw [5, 9] (fun nv iv wr => grRel r.by'.length w nv iv wr) (fun _ iv _ => r.by'.length - (intOf iv).toNat)
       case atStart => exact ⟨0, _, rfl, rfl, Nat.zero_le _, HBX.out⟩
       case round =>
        obtain ⟨j3, z3, rfl, rfl, hj3, hb3⟩ := hrel
        have HBX := Lib.hid hb3
        clear hb3
        obtain ⟨c0, c2, c3, c4⟩ := HC.out _ HBX.out
        by_cases hlt3 : j3 < r.by'.length
        ·by_cases hzz : z3 ≤ most
         ·have hq0 : (0 : Int) ≤ (j3 : Int) := by omega
          have hql : (j3 : Int) < r.by'.length := by omega
          have hqc : (j3 : Int) < cb := by omega
          obtain ⟨b3, o3, rfl, _, _, _, hcc⟩ := HIN.out.B.at HBX.out (show 0 < r.by'.length by omega)
          have hd := hcc j3 hlt3
          have hsz := HSM.out.b.2 _ (List.getElem_mem hlt3)
          generalize (r.by'[j3]) = y at *
          obtain ⟨yk, yn, yw⟩ := y
          simp only [] at hd hsz
          obtain ⟨d0, d1, d2⟩ := hd
          obtain ⟨s0, s1⟩ := hsz
          clear hcc
          go_wp2_with fail
          all_goals exact ⟨⟨j3 + 1, _, by push_cast; rfl, rfl, hlt3, HBX.out⟩, by simp only [intOf]; omega⟩
         ·have hql : (j3 : Int) < r.by'.length := by omega
          go_wp2_with fail
          exact ⟨⟨k + 1, _, by push_cast; rfl, rfl, hlt, HBX.out⟩, by simp only [intOf]; omega⟩
        ·obtain rfl : j3 = r.by'.length := by omega
         go_wp2_with fail
         exact ⟨⟨k + 1, _, by push_cast; rfl, rfl, hlt, HBX.out⟩, by simp only [intOf]; omega⟩
   ·obtain rfl : j1 = r.holes.length := by omega
    go_wp2_with fail
    go_loopw [5, 8] (fun nv iv wr => grRel r.fnd.length w nv iv wr) (fun _ iv _ => r.fnd.length - (intOf iv).toNat)
    case atStart => exact ⟨0, _, rfl, rfl, Nat.zero_le _, HBX.out⟩
    case round =>
     obtain ⟨j2, z2, rfl, rfl, hj2, hb2⟩ := hrel
     have HBX := Lib.hid hb2
     clear hb2
     obtain ⟨c0, c2, c3, c4⟩ := HC.out _ HBX.out
     by_cases hlt2 : j2 < r.fnd.length
     ·by_cases hzz : z2 ≤ most
      ·have hq0 : (0 : Int) ≤ (j2 : Int) := by omega
       have hql : (j2 : Int) < r.fnd.length := by omega
       have hqc : (j2 : Int) < cf := by omega
       obtain ⟨b2, o2, rfl, _, _, _, hcc⟩ := HIN.out.F.at HBX.out (show 0 < r.fnd.length by omega)
       have hd := hcc j2 hlt2
       have hsz := HSM.out.f.2 _ (List.getElem_mem hlt2)
       generalize (r.fnd[j2]) = y at *
       obtain ⟨yk, yn, yw⟩ := y
       simp only [] at hd hsz
       obtain ⟨d0, d1, d2⟩ := hd
       obtain ⟨s0, s1⟩ := hsz
       clear hcc
       go_wp2_with fail
       all_goals exact ⟨⟨j2 + 1, _, by push_cast; rfl, rfl, hlt2, HBX.out⟩, by simp only [intOf]; omega⟩
      ·have hql : (j2 : Int) < r.fnd.length := by omega
       go_wp2_with fail
       go_loopw [5, 9] (fun nv iv wr => grRel r.by'.length w nv iv wr) (fun _ iv _ => r.by'.length - (intOf iv).toNat)
       case atStart => exact ⟨0, _, rfl, rfl, Nat.zero_le _, HBX.out⟩
       case round =>
        obtain ⟨j3, z3, rfl, rfl, hj3, hb3⟩ := hrel
        have HBX := Lib.hid hb3
        clear hb3
        obtain ⟨c0, c2, c3, c4⟩ := HC.out _ HBX.out
        by_cases hlt3 : j3 < r.by'.length
        ·by_cases hzz : z3 ≤ most
         ·have hq0 : (0 : Int) ≤ (j3 : Int) := by omega
          have hql : (j3 : Int) < r.by'.length := by omega
          have hqc : (j3 : Int) < cb := by omega
          obtain ⟨b3, o3, rfl, _, _, _, hcc⟩ := HIN.out.B.at HBX.out (show 0 < r.by'.length by omega)
          have hd := hcc j3 hlt3
          have hsz := HSM.out.b.2 _ (List.getElem_mem hlt3)
          generalize (r.by'[j3]) = y at *
          obtain ⟨yk, yn, yw⟩ := y
          simp only [] at hd hsz
          obtain ⟨d0, d1, d2⟩ := hd
          obtain ⟨s0, s1⟩ := hsz
          clear hcc
          go_wp2_with fail
          all_goals exact ⟨⟨j3 + 1, _, by push_cast; rfl, rfl, hlt3, HBX.out⟩, by simp only [intOf]; omega⟩
         ·have hql : (j3 : Int) < r.by'.length := by omega
          go_wp2_with fail
          exact ⟨⟨k + 1, _, by push_cast; rfl, rfl, hlt, HBX.out⟩, by simp only [intOf]; omega⟩
        ·obtain rfl : j3 = r.by'.length := by omega
         go_wp2_with fail
         exact ⟨⟨k + 1, _, by push_cast; rfl, rfl, hlt, HBX.out⟩, by simp only [intOf]; omega⟩
     ·obtain rfl : j2 = r.fnd.length := by omega
      go_wp2_with fail
      go_loopw [5, 9] (fun nv iv wr => grRel r.by'.length w nv iv wr) (fun _ iv _ => r.by'.length - (intOf iv).toNat)
      case atStart => exact ⟨0, _, rfl, rfl, Nat.zero_le _, HBX.out⟩
      case round =>
       obtain ⟨j3, z3, rfl, rfl, hj3, hb3⟩ := hrel
       have HBX := Lib.hid hb3
       clear hb3
       obtain ⟨c0, c2, c3, c4⟩ := HC.out _ HBX.out
       by_cases hlt3 : j3 < r.by'.length
       ·by_cases hzz : z3 ≤ most
        ·have hq0 : (0 : Int) ≤ (j3 : Int) := by omega
         have hql : (j3 : Int) < r.by'.length := by omega
         have hqc : (j3 : Int) < cb := by omega
         obtain ⟨b3, o3, rfl, _, _, _, hcc⟩ := HIN.out.B.at HBX.out (show 0 < r.by'.length by omega)
         have hd := hcc j3 hlt3
         have hsz := HSM.out.b.2 _ (List.getElem_mem hlt3)
         generalize (r.by'[j3]) = y at *
         obtain ⟨yk, yn, yw⟩ := y
         simp only [] at hd hsz
         obtain ⟨d0, d1, d2⟩ := hd
         obtain ⟨s0, s1⟩ := hsz
         clear hcc
         go_wp2_with fail
         all_goals exact ⟨⟨j3 + 1, _, by push_cast; rfl, rfl, hlt3, HBX.out⟩, by simp only [intOf]; omega⟩
        ·have hql : (j3 : Int) < r.by'.length := by omega
         go_wp2_with fail
         exact ⟨⟨k + 1, _, by push_cast; rfl, rfl, hlt, HBX.out⟩, by simp only [intOf]; omega⟩
       ·obtain rfl : j3 = r.by'.length := by omega
        go_wp2_with fail
        exact ⟨⟨k + 1, _, by push_cast; rfl, rfl, hlt, HBX.out⟩, by simp only [intOf]; omega⟩
end Go.Proofs.YtlkheofphafofaaGreatDoor
