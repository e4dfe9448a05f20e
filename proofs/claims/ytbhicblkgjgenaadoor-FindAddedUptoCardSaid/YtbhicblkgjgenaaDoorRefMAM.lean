/- Layers 16, 17, 18: the references' small functions, walked. -/
import Derived.Test.YtbhicblkgjgenaaDoorUpsPM
import Derived.Test.YtbhicblkgjgenaaDoorRuleCheckM
import Derived.Test.YtbhicblkgjgenaaDoorAppEqM
import Derived.BigQuiet
import Derived.Deep.QuietTactic
namespace Go.Proofs.YtbhicblkgjgenaaDoor
set_option linter.all false
attribute [local irreducible] Calls
open Go.RowKit

/-- Some number, some truth: the memory that was stays. -/
@[irreducible] def AnyInt (w0 : World) (e : Ending) (w' : World) : Prop := ∃ z : Int, e = .returned (.int .i64 z) ∧ Below w0.heap.size w0 w'
@[irreducible] def AnyBool (w0 : World) (e : Ending) (w' : World) : Prop := ∃ x : Bool, e = .returned (.bool x) ∧ Below w0.heap.size w0 w'
theorem AnyInt.mk {w0 w' : World} (z : Int) (h : Below w0.heap.size w0 w') : AnyInt w0 (.returned (.int .i64 z)) w' := by unfold AnyInt; exact ⟨z, rfl, h⟩
theorem AnyBool.mk {w0 w' : World} (x : Bool) (h : Below w0.heap.size w0 w') : AnyBool w0 (.returned (.bool x)) w' := by unfold AnyBool; exact ⟨x, rfl, h⟩
theorem AnyInt.out {w0 w' : World} {e : Ending} (h : AnyInt w0 e w') : ∃ z : Int, e = .returned (.int .i64 z) ∧ Below w0.heap.size w0 w' := by unfold AnyInt at h; exact h
theorem AnyBool.out {w0 w' : World} {e : Ending} (h : AnyBool w0 e w') : ∃ x : Bool, e = .returned (.bool x) ∧ Below w0.heap.size w0 w' := by unfold AnyBool at h; exact h
set_option maxRecDepth 100000 in
set_option maxHeartbeats 4000000 in
theorem ref_Several (s : ByteArray) (k : Nat) (w : World) :
    Calls Tryd.prog 21 #[.agg #[.string s, .int .u8 (k : Int)]] w fun e w' => e = .returned (.bool (isSev k)) ∧ Below w.heap.size w w' := by
  have HX := Lib.hid ((Below.refl w.heap.size w).alloc (Nat.le_refl _) (.cells #[.string s, .int .u8 (k : Int)] 54))
  have HQ : RowKit.Hid (∀ x w', isSev k = x → Below w.heap.size w w' → (fun (e : Ending) w' => e = .returned (.bool (isSev k)) ∧ Below w.heap.size w w') (.returned (.bool x)) w') := Lib.hid fun x w' h hb => ⟨by rw [h], hb⟩
  generalize (fun (e : Ending) w' => e = .returned (.bool (isSev k)) ∧ Below w.heap.size w w') = Q at *
  by_cases h6 : k = 6
  · subst h6
    have HZ := Lib.hid (HQ.out true _ rfl HX.out)
    go_enter Tryd.func21, Tryd.ntmps21
    go_wp2_with fail
    exact HZ.out
  by_cases h7 : k = 7
  · subst h7
    have HZ := Lib.hid (HQ.out true _ rfl HX.out)
    go_enter Tryd.func21, Tryd.ntmps21
    go_wp2_with fail
    exact HZ.out
  have g6 : ((k : Int) == 6) = false := by rw [beq_eq_false_iff_ne]; omega
  have g7 : ((k : Int) == 7) = false := by rw [beq_eq_false_iff_ne]; omega
  have HZ := Lib.hid (HQ.out false _ (by unfold isSev; simp [h6, h7]) HX.out)
  clear h6 h7
  go_enter Tryd.func21, Tryd.ntmps21
  go_wp2_with fail
  exact HZ.out
def wdRel (l : List Prt) (w : World) (nv iv : Value) (wr : World) : Prop := ∃ k : Nat, iv = .int .i64 (k : Int) ∧ nv = .int .i64 (widest (l.take k)) ∧ k ≤ l.length ∧ wr = w
theorem widest_snoc {l : List Prt} {k : Nat} (hk : k < l.length) : widest (l.take (k + 1)) = max (widest (l.take k)) (l[k]).2.1 := by
  rw [take_snoc hk]; unfold widest; rw [List.foldl_append]; rfl
set_option maxRecDepth 100000 in
set_option maxHeartbeats 4000000 in
theorem ref_Widest (l : List Prt) (hl : l.length ≤ 1048576) (v : Value) (w : World) (hr : PartRow w v l) :
    Calls Tryd.prog 22 #[v] w fun e w' => e = .returned (.int .i64 (widest l)) ∧ w = w' := by
  have HR := Lib.hid hr
  obtain ⟨va, vc, rfl, hvc⟩ := hr.slice
  clear hr
  go_enter Tryd.func22, Tryd.ntmps22
  go_wp2_with fail
  go_loopw [3, 4] (fun nv iv wr => wdRel l w nv iv wr) (fun _ iv _ => l.length - (intOf iv).toNat)
  case atStart => exact ⟨0, rfl, rfl, Nat.zero_le _, rfl⟩
  case round =>
    obtain ⟨k, rfl, rfl, hk, rfl⟩ := hrel
    by_cases hlt : k < l.length
    · obtain ⟨b, off, rfl, _, _, hbl, hcell⟩ := HR.out.at (Below.refl _ _) (show 0 < l.length by omega)
      obtain ⟨d0, d1, d2⟩ := hcell k hlt
      have hk0 : (0 : Int) ≤ (k : Int) := by omega
      have hkl : (k : Int) < l.length := by omega
      have hkc : (k : Int) < vc := by omega
      have HX : RowKit.Hid (wdRel l wr (.int .i64 (max (widest (l.take k)) (l[k]).2.1)) (.int .i64 ((k : Int) + 1)) wr) := Lib.hid ⟨k + 1, by push_cast; rfl, by rw [widest_snoc hlt], hlt, rfl⟩
      clear hcell d0 d2
      generalize (l[k]).2.1 = c at *
      generalize widest (l.take k) = m at *
      go_wp2_with fail
      exact ⟨HX.out, by simp only [intOf]; omega⟩
    · obtain rfl : k = l.length := by omega
      rw [List.take_length]
      go_wp2_with fail
      go_ret
      exact ⟨rfl, rfl⟩
def wyRel (n : Nat) (W0 : World) (nv iv : Value) (wr : World) : Prop := ∃ (k : Nat) (z : Int), iv = .int .i64 (k : Int) ∧ nv = .int .i64 z ∧ k ≤ n ∧ Below W0.heap.size W0 wr
set_option maxRecDepth 100000 in
set_option maxHeartbeats 4000000 in
theorem ref_Ways17 (r : RuleM) (hh : r.holes.length ≤ 1048576) (vh vf vb : Value) (l : List Prt) (hl : l.length ≤ 1048576) (vl : Value) (w : World) (hr : RuleIn w r vh vf vb) (hlr : PartRow w vl l) :
    Calls Tryd.prog 10 #[ruleAgg r vh vf vb, vl] w (AnyInt w) := by
  obtain ⟨ah, ch, rfl, hch⟩ := Row.shape hr.H
  obtain ⟨af, cf, rfl, hcf⟩ := hr.F.slice
  obtain ⟨ab, cb, rfl, hcb⟩ := hr.B.slice
  obtain ⟨al, cl, rfl, hcl⟩ := hlr.slice
  have HQ : RowKit.Hid (∀ z w', Below w.heap.size w w' → AnyInt w (.returned (.int .i64 z)) w') := Lib.hid fun z w' hb => AnyInt.mk z hb
  generalize AnyInt w = Q at *
  unfold ruleAgg
  have HR1 : RowKit.Hid (RK (w.alloc (.cells #[.string r.nm, .int .u8 (r.goal : Int), .slice ah r.holes.length ch, .slice af r.fnd.length cf, .slice ab r.by'.length cb] 25)) w.heap.size r.nm r.goal (.slice ah r.holes.length ch) (.slice af r.fnd.length cf) (.slice ab r.by'.length cb)) := Lib.hid (heap_alloc_new _ _)
  have HB1 : RowKit.Hid (Below w.heap.size w (w.alloc (.cells #[.string r.nm, .int .u8 (r.goal : Int), .slice ah r.holes.length ch, .slice af r.fnd.length cf, .slice ab r.by'.length cb] 25))) := Lib.hid ((Below.refl _ _).alloc (Nat.le_refl _) _)
  have HH := Lib.hid hr.H
  have HLR := Lib.hid hlr
  clear hr hlr
  go_enter Tryd.func10, Tryd.ntmps10
  go_wp2_with fail
  generalize w.alloc (.cells #[.string r.nm, .int .u8 (r.goal : Int), .slice ah r.holes.length ch, .slice af r.fnd.length cf, .slice ab r.by'.length cb] 25) = W0 at *
  go_loopw [5, 6] (fun nv iv wr => wyRel r.holes.length W0 nv iv wr) (fun _ iv _ => r.holes.length - (intOf iv).toNat)
  case atStart => exact ⟨0, 1, rfl, rfl, Nat.zero_le _, Below.refl _ _⟩
  case round =>
    obtain ⟨k, z, rfl, rfl, hk, hb⟩ := hrel
    have HB := Lib.hid hb
    clear hb
    obtain ⟨e0, e1, e2, e3, e4⟩ := (HR1.out.below HB.out).cells
    by_cases hlt : k < r.holes.length
    · by_cases hz : z < 1000000
      · obtain ⟨b, off, rfl, _, _, hbl, hcell⟩ := HH.out.at (bthen HB1.out HB.out) (show 0 < r.holes.length by omega)
        obtain ⟨d0, d1⟩ := hcell k hlt
        have hk0 : (0 : Int) ≤ (k : Int) := by omega
        have hkl : (k : Int) < r.holes.length := by omega
        have hkc : (k : Int) < ch := by omega
        generalize r.holes[k] = y at *
        obtain ⟨yn, yk⟩ := y
        simp only [] at d0 d1
        have CS := Lib.hid (ref_Several yn yk wr)
        clear hcell
        go_wp2_with fail
        refine CS.out.mono ?_
        rintro e w2 ⟨rfl, hb2⟩
        have HB2 := Lib.hid (bthen HB.out hb2)
        clear hb2 CS e0 e1 e2 e3 e4 d0 d1
        cases hs : isSev yk with
        | false =>
          go_wp2_with fail
          exact ⟨⟨k + 1, z, by push_cast; rfl, rfl, hlt, HB2.out⟩, by simp only [intOf]; omega⟩
        | true =>
          have CW := Lib.hid (ref_Widest l hl _ w2 (HLR.out.below (bthen HB1.out HB2.out)))
          go_wp2_with fail
          refine CW.out.mono ?_
          rintro e w3 ⟨rfl, rfl⟩
          generalize widest l = m
          go_wp2_with fail
          all_goals exact ⟨⟨k + 1, _, by push_cast; rfl, rfl, hlt, HB2.out⟩, by simp only [intOf]; omega⟩
      · have hz' : ¬ z < 1000000 := hz
        have HX := Lib.hid (HQ.out z wr (bthen HB1.out HB.out))
        have hkl : (k : Int) < r.holes.length := by omega
        go_wp2_with fail
        exact HX.out
    · obtain rfl : k = r.holes.length := by omega
      have HX := Lib.hid (HQ.out z wr (bthen HB1.out HB.out))
      go_wp2_with fail
      exact HX.out
set_option maxRecDepth 100000 in
set_option maxHeartbeats 4000000 in
theorem ref_Ways18 (rs : List RuleX) (hs : ∀ x ∈ rs, x.1.holes.length ≤ 1048576) (hn : rs.length ≤ 1048576) (vr : Value) (l : List Prt) (hl : l.length ≤ 1048576) (vl : Value) (w : World) (hr : RulesIn w vr rs) (hlr : PartRow w vl l) :
    Calls Tryd.prog 28 #[vr, vl] w (AnyInt w) := by
  obtain ⟨ar, cr, rfl, hcr⟩ := hr.shape
  obtain ⟨al, cl, rfl, hcl⟩ := hlr.slice
  have HQ : RowKit.Hid (∀ z w', Below w.heap.size w w' → AnyInt w (.returned (.int .i64 z)) w') := Lib.hid fun z w' hb => AnyInt.mk z hb
  generalize AnyInt w = Q at *
  have HS := Lib.hid hs
  have HR := Lib.hid hr
  have HLR := Lib.hid hlr
  clear hr hlr hs
  go_enter Tryd.func28, Tryd.ntmps28
  go_wp2_with fail
  go_loopw [5, 6] (fun nv iv wr => wyRel rs.length w nv iv wr) (fun _ iv _ => rs.length - (intOf iv).toNat)
  case atStart => exact ⟨0, 0, rfl, rfl, Nat.zero_le _, Below.refl _ _⟩
  case round =>
    obtain ⟨k, z, rfl, rfl, hk, hb⟩ := hrel
    have HB := Lib.hid hb
    clear hb
    by_cases hlt : k < rs.length
    · by_cases hz : k < 40
      · obtain ⟨b, off, rfl, _, _, hbl, hcell⟩ := HR.out.at HB.out (show 0 < rs.length by omega)
        obtain ⟨d0, d1, d2, d3, d4⟩ := hcell k hlt
        have hk0 : (0 : Int) ≤ (k : Int) := by omega
        have hkl : (k : Int) < rs.length := by omega
        have hkc : (k : Int) < cr := by omega
        have hk40 : (k : Int) < 40 := by omega
        have hin := HR.out.E _ (List.getElem_mem hlt)
        have hsm := HS.out _ (List.getElem_mem hlt)
        generalize rs[k] = x at *
        obtain ⟨r, vh, vf, vb⟩ := x
        simp only [] at d0 d1 d2 d3 d4 hin hsm
        have CW := Lib.hid (ref_Ways17 r hsm _ _ _ l hl _ wr (hin.below HB.out) (HLR.out.below HB.out))
        obtain ⟨ah, ch, rfl, hch⟩ := Row.shape hin.H
        obtain ⟨af, cf, rfl, hcf⟩ := hin.F.slice
        obtain ⟨ab, cb, rfl, hcb⟩ := hin.B.slice
        unfold ruleAgg at CW
        clear hcell hin hsm hz
        go_wp2_with fail
        refine CW.out.mono ?_
        intro e w2 h2
        obtain ⟨y, rfl, hb2⟩ := h2.out
        have HB2 := Lib.hid (bthen HB.out hb2)
        clear h2 hb2 CW d0 d1 d2 d3 d4
        go_wp2_with fail
        all_goals exact ⟨⟨k + 1, _, by push_cast; rfl, rfl, hlt, HB2.out⟩, by simp only [intOf]; omega⟩
      · have hk40 : ¬ (k : Int) < 40 := by omega
        have hkl : (k : Int) < rs.length := by omega
        have HX := Lib.hid (HQ.out z wr HB.out)
        go_wp2_with fail
        exact HX.out
    · obtain rfl : k = rs.length := by omega
      have HX := Lib.hid (HQ.out z wr HB.out)
      go_wp2_with fail
      exact HX.out
/-! ### are binds alike? -/
def TellsB (x : Bool) (a b : List Bnd) : Prop := x = true ↔ a = b
def sbRel (a b : List Bnd) (w : World) (iv : Value) (wr : World) : Prop := ∃ k : Nat, iv = .int .i64 (k : Int) ∧ k ≤ a.length ∧ a.take k = b.take k ∧ Below w.heap.size w wr
theorem bind_eq {x y : Bnd} : x = y ↔ x.1.toList = y.1.toList ∧ x.2.1 = y.2.1 ∧ x.2.2 = y.2.2 := by
  constructor
  · rintro rfl; exact ⟨rfl, rfl, rfl⟩
  · rintro ⟨h1, h2, h3⟩
    obtain ⟨x1, x2, x3⟩ := x
    obtain ⟨y1, y2, y3⟩ := y
    simp only [] at h1 h2 h3
    subst h2; subst h3
    by_cases h : x1 = y1
    · subst h; rfl
    · exact absurd h1 (pl_bytes_ne h)
set_option maxRecDepth 100000 in
set_option maxHeartbeats 4000000 in
theorem ref_SameBinds (a b : List Bnd) (ha : a.length ≤ 1048576) (hb : b.length ≤ 1048576) (va vb : Value) (w : World) (h1 : BindRow w va a) (h2 : BindRow w vb b) :
    Calls Tryd.prog 23 #[va, vb] w fun e w' => ∃ x, e = .returned (.bool x) ∧ TellsB x a b ∧ Below w.heap.size w w' := by
  have HQ : RowKit.Hid (∀ x w', TellsB x a b → Below w.heap.size w w' → (fun (e : Ending) w' => ∃ x, e = .returned (.bool x) ∧ TellsB x a b ∧ Below w.heap.size w w') (.returned (.bool x)) w') := Lib.hid fun x w' h h2 => ⟨x, rfl, h, h2⟩
  generalize (fun (e : Ending) w' => ∃ x, e = .returned (.bool x) ∧ TellsB x a b ∧ Below w.heap.size w w') = Q at *
  obtain ⟨aa, ac, rfl, hac⟩ := Row.shape h1
  obtain ⟨ba, bc, rfl, hbc⟩ := Row.shape h2
  have H1 := Lib.hid h1
  have H2 := Lib.hid h2
  clear h1 h2
  by_cases hlen : a.length = b.length
  case neg =>
    have HX := Lib.hid (HQ.out false w ⟨(fun h => by cases h), fun h => absurd (congrArg List.length h) hlen⟩ (Below.refl _ _))
    have g1 : ((a.length : Int) != (b.length : Int)) = true := by rw [bne_iff_ne]; omega
    have g2 : (a.length != b.length) = true := by rw [bne_iff_ne]; exact hlen
    have g3 : (a.length == b.length) = false := by rw [beq_eq_false_iff_ne]; exact hlen
    clear hlen
    go_enter Tryd.func23, Tryd.ntmps23
    go_wp2_with fail
    exact HX.out
  have HLEN := Lib.hid hlen
  have H2' : RowKit.Hid (BindRow w (.slice ba a.length bc) b) := Lib.hid (by rw [hlen]; exact H2.out)
  rw [← hlen]
  clear H2
  rw [← hlen] at hbc
  clear hlen
  go_enter Tryd.func23, Tryd.ntmps23
  go_wp2_with fail
  go_loopw [5] (fun iv wr => sbRel a b w iv wr) (fun iv _ => a.length - (intOf iv).toNat)
  case atStart => exact ⟨0, rfl, Nat.zero_le _, rfl, Below.refl _ _⟩
  case round =>
    obtain ⟨k, rfl, hk, htk, hbl⟩ := hrel
    have HB := Lib.hid hbl
    have HTK := Lib.hid htk
    clear hbl htk
    by_cases hlt : k < a.length
    · have hlb : k < b.length := by have := HLEN.out; omega
      obtain ⟨b1, o1, rfl, _, _, _, hc1⟩ := BindRow.at H1.out HB.out (show 0 < a.length by omega)
      obtain ⟨b2, o2, rfl, hxx, _, _, hc2⟩ := BindRow.at H2'.out HB.out (show 0 < b.length by omega)
      clear hxx
      obtain ⟨c0, c1, c2⟩ := hc1 k hlt
      obtain ⟨d0, d1, d2⟩ := hc2 k hlb
      have hk0 : (0 : Int) ≤ (k : Int) := by omega
      have hkl : (k : Int) < a.length := by omega
      have hka : (k : Int) < ac := by omega
      have hkb : (k : Int) < bc := by omega
      have HYES : RowKit.Hid (a[k] = b[k] → a.take (k + 1) = b.take (k + 1)) := Lib.hid (fun e => by rw [take_snoc hlt, take_snoc hlb, HTK.out, e])
      have HNO : RowKit.Hid (a[k] ≠ b[k] → a ≠ b) := Lib.hid (fun e h => by subst h; exact e rfl)
      have HBD := Lib.hid HB.out.drew
      generalize a[k] = x at *
      generalize b[k] = y at *
      obtain ⟨xn, xf, xt⟩ := x
      obtain ⟨yn, yf, yt⟩ := y
      simp only [] at c0 c1 c2 d0 d1 d2
      clear hc1 hc2
      by_cases hE : xn = yn ∧ xf = yf ∧ xt = yt
      · obtain ⟨rfl, rfl, rfl⟩ := hE
        have HTK1 := Lib.hid (HYES.out rfl)
        clear HYES HNO
        go_wp2_with fail
        go_quiet (fail)
        have HB2 := Lib.hid (drewB HB.out nq)
        have HR : RowKit.Hid (sbRel a b w (.int .i64 ((k : Int) + 1)) (wr.drewN nq)) := Lib.hid ⟨k + 1, by push_cast; rfl, hlt, HTK1.out, HB2.out⟩
        go_wp2_with fail
        exact ⟨HR.out, by simp only [intOf]; omega⟩
      · have HF : RowKit.Hid (TellsB false a b) := Lib.hid ⟨(fun e => by cases e), fun e => absurd e (HNO.out (fun e2 => hE (by simp only [Prod.mk.injEq] at e2; exact e2)))⟩
        clear HYES HNO
        have hcs : xn ≠ yn ∨ (xn = yn ∧ xf ≠ yf) ∨ (xn = yn ∧ xf = yf ∧ xt ≠ yt) := by
          by_cases q1 : xn = yn
          · by_cases q2 : xf = yf
            · exact Or.inr (Or.inr ⟨q1, q2, fun q3 => hE ⟨q1, q2, q3⟩⟩)
            · exact Or.inr (Or.inl ⟨q1, q2⟩)
          · exact Or.inl q1
        clear hE
        rcases hcs with q1 | ⟨rfl, q2⟩ | ⟨rfl, rfl, q3⟩
        · have f1 : (xn.toList == yn.toList) = false := by rw [beq_eq_false_iff_ne]; exact pl_bytes_ne q1
          go_wp2_with fail
          go_quiet (fail)
          have HX := Lib.hid (HQ.out _ _ HF.out (drewB HB.out nq))
          go_wp2_with fail
          exact HX.out
        · have f1 : (xf == yf) = false := by rw [beq_eq_false_iff_ne]; exact q2
          go_wp2_with fail
          go_quiet (fail)
          have HX := Lib.hid (HQ.out _ _ HF.out (drewB HB.out nq))
          go_wp2_with fail
          exact HX.out
        · have f1 : (xt == yt) = false := by rw [beq_eq_false_iff_ne]; exact q3
          go_wp2_with fail
          go_quiet (fail)
          have HX := Lib.hid (HQ.out _ _ HF.out (drewB HB.out nq))
          go_wp2_with fail
          exact HX.out
    · have hkl : ¬ (k : Int) < a.length := by omega
      obtain rfl : k = a.length := by omega
      have HX := Lib.hid (HQ.out true wr ⟨fun _ => by have := HTK.out; rw [List.take_length, HLEN.out, List.take_length] at this; exact this, fun _ => rfl⟩ HB.out)
      go_wp2_with fail
      exact HX.out
end Go.Proofs.YtbhicblkgjgenaaDoor
