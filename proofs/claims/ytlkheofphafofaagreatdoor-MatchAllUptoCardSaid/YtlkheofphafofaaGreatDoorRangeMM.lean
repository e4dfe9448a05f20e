/- A range over a function whose rounds are told what lies in memory at each call of yield, and whose body goes on in every round. -/
import Derived.RangeFuncNested
import Derived.RangeFuncBound
import Derived.Test.YtlkheofphafofaaGreatDoorCoreM
import Derived.Test.YtlkheofphafofaaGreatDoorSeekPM
import Derived.Test.YtlkheofphafofaaGreatDoorRefMAM
import Derived.Test.YtlkheofphafofaaGreatDoorRuleCheckM
import Derived.Test.YtlkheofphafofaaGreatDoorStillM
import Derived.Deep.RegionHeld3
import Derived.Test.YtlkheofphafofaaGreatDoorFix17M
import Derived.Test.YtlkheofphafofaaGreatDoorTermQM
import Derived.Test.YtlkheofphafofaaGreatDoorTermSameM
namespace Go.Proofs.YtlkheofphafofaaGreatDoor
set_option linter.all false
open Go.RowKit

section
variable {P : Program} {α : Type}
end
end Go.Proofs.YtlkheofphafofaaGreatDoor
namespace Go.Proofs.YtlkheofphafofaaGreatDoor
set_option linter.all false
open Go.RowKit

abbrev MchX := Mch × Value
def mchV (x : MchX) : List Value := [.int .i64 (x.1.1 : Int), .int .i64 (x.1.2.1 : Int), x.2]
def mchsV (xs : List MchX) : List Value := xs.flatMap mchV
structure KpF (B : Nat) (bx : Option Nat) (W W' : World) : Prop where
 os : W'.os = W.os
 tape : W'.tape = W.tape
 output : W'.output = W.output
 size : W.heap.size ≤ W'.heap.size
 low : ∀ k, k < B → k < W.heap.size → W'.heap[k]? = W.heap[k]?
 cells : ∀ k cs T fr, W.heap[k]? = some (.cells cs T fr) → T ≠ 95 → T ≠ 58 → some k ≠ bx → W'.heap[k]? = W.heap[k]?
theorem KpF.of_below {B : Nat} {bx : Option Nat} {W W' : World} (h : Below W.heap.size W W') : KpF B bx W W' :=
 ⟨h.os, h.tape, h.output, h.size, fun k _ hk => h.block k hk, fun k cs T fr hc _ _ _ => h.block k (keeps_lt hc)⟩
theorem KpF.trans {B : Nat} {bx : Option Nat} {a b c : World} (h : KpF B bx a b) (k : KpF B bx b c) : KpF B bx a c :=
 ⟨k.os.trans h.os, k.tape.trans h.tape, k.output.trans h.output, Nat.le_trans h.size k.size, fun i h1 h2 => (k.low i h1 (Nat.lt_of_lt_of_le h2 h.size)).trans (h.low i h1 h2),
  fun i cs T fr hc h1 h2 h3 => by
   have e := h.cells i cs T fr hc h1 h2 h3
   exact (k.cells i cs T fr (e.trans hc) h1 h2 h3).trans e⟩
theorem KpF.put {B : Nat} {bx : Option Nat} {W : World} {D : Nat} {r : Loop} (o : Obj) (hB : B ≤ D) (h : W.heap[D]? = some (.loop r)) : KpF B bx W (W.putObj D o) :=
 ⟨rfl, rfl, rfl, by simp [World.putObj], fun k h1 _ => World.putObj_heap_other (by omega), fun k cs T fr hc _ _ _ => World.putObj_heap_other (fun e => by subst e; rw [h] at hc; cases hc)⟩
theorem KpF.below {bx : Option Nat} {w W W' : World} (hb : Below w.heap.size w W) (h : KpF w.heap.size bx W W') : Below w.heap.size w W' :=
 ⟨h.os.trans hb.os, h.tape.trans hb.tape, h.output.trans hb.output, Nat.le_trans hb.size h.size, fun k hk => (h.low k hk (Nat.lt_of_lt_of_le hk hb.size)).trans (hb.block k hk)⟩
theorem KpF.row {B : Nat} {bx : Option Nat} {W W' : World} (h : KpF B bx W W') {C : Nat} {e : TypeId} {size n : Nat} {v : Value} {xs : List Value} (hr : W.ownsRow C e size v n xs) (h1 : e ≠ 95) (h2 : e ≠ 58) (hx : ∀ k, bx = some k → k < C) : W'.ownsRow C e size v n xs := by
 obtain ⟨g1, g2⟩ := hr
 refine ⟨g1, ?_⟩
 rcases g2 with g2 | ⟨k, cap, cur, hv, hk, hh, r⟩
 ·exact Or.inl g2
 ·exact Or.inr ⟨k, cap, cur, hv, hk, (h.cells k _ _ _ hh h1 h2 (fun e => by have := hx k e.symm; omega)).trans hh, r⟩
structure EchW (w : World) (m : Nat) (bx : Option Nat) (cl cr : Nat) (vl vr : Value) (W : World) : Prop where
 below : Below w.heap.size w W
 L : W.heap[cl]? = some (.cells #[vl] 23 (0, 0))
 R : W.heap[cr]? = some (.cells #[vr] 34 (0, 0))
 lt : m ≤ cl ∧ m ≤ cr ∧ w.heap.size ≤ m
 bx : ∀ k, bx = some k → k < m
theorem EchW.ext {w : World} {m : Nat} {bx : Option Nat} {cl cr : Nat} {vl vr : Value} {W W' : World} (h : EchW w m bx cl cr vl vr W) (hb : Below W.heap.size W W') : EchW w m bx cl cr vl vr W' :=
 ⟨bthen h.below hb, keeps hb h.L, keeps hb h.R, h.lt, h.bx⟩
theorem EchW.kp {w : World} {m : Nat} {bx : Option Nat} {cl cr : Nat} {vl vr : Value} {W W' : World} (h : EchW w m bx cl cr vl vr W) (k : KpF w.heap.size bx W W') : EchW w m bx cl cr vl vr W' :=
 ⟨k.below h.below, (k.cells _ _ _ _ h.L (by decide) (by decide) (fun e => by have := h.bx _ e.symm; have := h.lt; omega)).trans h.L, (k.cells _ _ _ _ h.R (by decide) (by decide) (fun e => by have := h.bx _ e.symm; have := h.lt; omega)).trans h.R, h.lt, h.bx⟩
theorem EchW.cells {w : World} {m : Nat} {bx : Option Nat} {cl cr : Nat} {vl vr : Value} {W : World} (h : EchW w m bx cl cr vl vr W) : W.cell? ⟨cl, 0, none⟩ = some vl ∧ W.cell? ⟨cr, 0, none⟩ = some vr := by
 simp only [World.cell?, h.L, h.R]
 exact ⟨rfl, rfl⟩
theorem EchW.part {w : World} {m : Nat} {bx : Option Nat} {cl cr : Nat} {vl vr : Value} {W W' : World} (h : EchW w m bx cl cr vl vr W) (k : KpF w.heap.size bx W W') {g : Nat} {p : Prt} (hg : m ≤ g) (hp : PK W g p) : PK W' g p := by
 unfold PK at *
 exact (k.cells _ _ _ _ hp (by decide) (by decide) (fun e => by have := h.bx _ e.symm; omega)).trans hp
theorem EchW.rule {w : World} {m : Nat} {bx : Option Nat} {cl cr : Nat} {vl vr : Value} {W W' : World} (h : EchW w m bx cl cr vl vr W) (k : KpF w.heap.size bx W W') {g : Nat} {nm : ByteArray} {goal : Nat} {vh vf vb : Value} (hg : m ≤ g) (hp : RK W g nm goal vh vf vb) : RK W' g nm goal vh vf vb := by
 unfold RK at *
 exact (k.cells _ _ _ _ hp (by decide) (by decide) (fun e => by have := h.bx _ e.symm; omega)).trans hp
end Go.Proofs.YtlkheofphafofaaGreatDoor
namespace Go.Proofs.YtlkheofphafofaaGreatDoor
set_option linter.all false
attribute [local irreducible] Calls
attribute [local irreducible] wpStill
open Go.RowKit

structure MchsIn (w : World) (v : Value) (xs : List MchX) : Prop where
 R : Row w v xs.length 3 (mchsV xs)
 E : ∀ x ∈ xs, BindRow w x.2 x.1.2.2
theorem MchsIn.below {w w' : World} {v : Value} {xs : List MchX} (h : MchsIn w v xs) (hb : Below w.heap.size w w') : MchsIn w' v xs := ⟨Row.below h.R hb, fun x hx => (h.E x hx).below hb⟩
theorem MchsIn.shape {w : World} {v : Value} {xs : List MchX} (h : MchsIn w v xs) : ∃ a cap, v = .slice a xs.length cap ∧ xs.length ≤ cap := Row.shape h.R
theorem MchsIn.at {w w' : World} {a : Option Addr} {n cap : Nat} {xs : List MchX} (h : MchsIn w (.slice a n cap) xs) (hb : Below w.heap.size w w') (hp : 0 < xs.length) :
  ∃ b off, a = some ⟨b, off, none⟩ ∧ xs.length ≤ cap ∧ b < w.heap.size ∧ ∀ i (hi : i < xs.length),
   w'.cell? ⟨b, off + i * 3, none⟩ = some (.int .i64 (xs[i].1.1 : Int)) ∧ w'.cell? ⟨b, off + i * 3 + 1, none⟩ = some (.int .i64 (xs[i].1.2.1 : Int)) ∧ w'.cell? ⟨b, off + i * 3 + 2, none⟩ = some xs[i].2 := by
 obtain ⟨b, off, cap', hv, hc, hlt, hcell⟩ := Row.cells h.R hb hp
 simp only [Value.slice.injEq] at hv
 obtain ⟨rfl, rfl, rfl⟩ := hv
 have key : ∀ i (hi : i < xs.length) (j : Nat), j < 3 → w'.cell? ⟨b, off + i * 3 + j, none⟩ = (mchV xs[i])[j]? := fun i hi j hj => by
  rw [Nat.add_assoc, hcell _ (by omega)]
  exact flat_at (g := mchV) (sz := 3) (fun _ => rfl) xs i j hi hj
 exact ⟨b, off, rfl, hc, hlt, fun i hi => ⟨key i hi 0 (by omega), key i hi 1 (by omega), key i hi 2 (by omega)⟩⟩
end Go.Proofs.YtlkheofphafofaaGreatDoor
namespace Go.Proofs.YtlkheofphafofaaGreatDoor
set_option linter.all false
open Go.RowKit

structure HeldM (w : World) : Prop where
 T : Tabs w
 M : MaxC w
theorem HeldM.below {w w' : World} (h : HeldM w) (hb : Below w.heap.size w w') : HeldM w' := ⟨h.T.below hb, h.M.below hb⟩
@[irreducible] def AnswersM (w : World) (e : Ending) (w' : World) : Prop := e = .returned (.bool true) ∧ Below w.heap.size w w'
theorem AnswersM.mk {w w' : World} (h : Below w.heap.size w w') : AnswersM w (.returned (.bool true)) w' := by unfold AnswersM; exact ⟨rfl, h⟩
theorem AnswersM.out {w w' : World} {e : Ending} (h : AnswersM w e w') : e = .returned (.bool true) ∧ Below w.heap.size w w' := by unfold AnswersM at h; exact h
theorem lit_rule (w : World) (x : RuleX) (h : RuleIn w x.1 x.2.1 x.2.2.1 x.2.2.2) : RulesIn (w.alloc (.cells (ruleV x).toArray 25)) (.slice (some ⟨w.heap.size, 0, none⟩) 1 1) [x] := by
 have h1 : (w.alloc (.cells (ruleV x).toArray 25)).ownsRow 0 25 5 (.slice (some ⟨w.heap.size, 0, none⟩) 1 1) 1 (ruleV x) := by
  refine ⟨rfl, Or.inr ⟨w.heap.size, 1, (ruleV x).toArray, rfl, Nat.zero_le _, heap_alloc_new _ _, Nat.le_refl _, by unfold maxLen; omega, rfl, by simp [ruleV]⟩⟩
 refine ⟨?_, fun y hy => ?_⟩
 ·have := Row.of_owns h1
  simpa using this
 ·obtain rfl : y = x := by simpa using hy
  exact h.below ((Below.refl _ _).alloc (Nat.le_refl _) _)
end Go.Proofs.YtlkheofphafofaaGreatDoor
namespace Go.Proofs.YtlkheofphafofaaGreatDoor
set_option linter.all false

theorem binds_small {r : RuleM} {l : List Prt} {i : Int} {τ : MSt} (h : atZ r l i = some τ) (hl : l.length ≤ 1048576) : (bindsOf r.holes τ).length = r.holes.length ∧ ∀ b ∈ bindsOf r.holes τ, (0 ≤ b.2.1 ∧ b.2.1 ≤ 1048576) ∧ (0 ≤ b.2.2 ∧ b.2.2 ≤ 1048576) := by
 obtain ⟨h1, h2, h3, h4, h5, h6, h7⟩ := atZ_inv h
 refine ⟨by unfold bindsOf; rw [List.length_zipWith, h6, Nat.min_self], fun b hb => ?_⟩
 obtain ⟨k, hk, rfl⟩ := List.mem_iff_getElem.1 hb
 have hk2 : k < r.holes.length := by unfold bindsOf at hk; rw [List.length_zipWith] at hk; omega
 obtain ⟨q, hq, hg⟩ := h7 k hk2
 have hk3 : k < τ.length := by omega
 have e : τ[k] = some q := by rw [List.getElem?_eq_getElem hk3] at hq; exact Option.some.inj hq
 have e2 : (bindsOf r.holes τ)[k] = ((r.holes[k]).1, (q.1 : Int), (q.2 : Int)) := by
  apply Option.some.inj
  rw [← List.getElem?_eq_getElem hk]
  unfold bindsOf
  rw [List.getElem?_zipWith, List.getElem?_eq_getElem hk2, List.getElem?_eq_getElem hk3, e]
  rfl
 rw [e2]
 have he := (endB_gt (well_rows h2) (show i.toNat < l.length by omega)).2
 obtain ⟨g1, g2, g3, _⟩ := hg
 simp only []
 omega
end Go.Proofs.YtlkheofphafofaaGreatDoor
namespace Go.Proofs.YtlkheofphafofaaGreatDoor
set_option linter.all false
attribute [local irreducible] Calls
open Go.RowKit

def bndO (r : RuleM) (o : Option MSt) : List Bnd := match o with
 | some τ => bindsOf r.holes τ
 | none => []
def FlatP (r : RuleM) (o : Option MSt) (w0 : World) (e : Ending) (w' : World) : Prop :=
 ∃ a c, e = .returned (.tuple #[.slice a (bndO r o).length c, .bool o.isSome]) ∧ (bndO r o).length ≤ c ∧ BindRow w' (.slice a (bndO r o).length c) (bndO r o) ∧ Below w0.heap.size w0 w'
theorem atPost.flat {r : RuleM} {o : Option MSt} {w0 w' : World} {e : Ending} (h : atPost r o w0 e w') (hl : ∀ τ, o = some τ → (bindsOf r.holes τ).length = r.holes.length) : FlatP r o w0 e w' := by
 unfold atPost at h
 obtain ⟨hb, h⟩ := h
 cases o with
 | none =>
  simp only [] at h
  subst h
  exact ⟨none, 0, rfl, Nat.le_refl _, ⟨rfl, none, 0, rfl, Nat.le_refl _, fun _ => rfl, fun h => absurd h (by simp [bndO])⟩, hb⟩
 | some τ =>
  simp only [] at h
  obtain ⟨vb, rfl, ho⟩ := h
  have e1 := hl τ rfl
  have h1 : BindRow w' vb (bindsOf r.holes τ) := by unfold BindRow; rw [e1]; exact Row.of_owns ho
  obtain ⟨a, c, rfl, hc⟩ := Row.shape h1
  exact ⟨a, c, rfl, hc, h1, hb⟩
theorem at_flat (r : RuleM) (hs : SmallR r) (vh vf vb : Value) (l : List Prt) (hl : SmallL l) (vl : Value) (i : Int) (w : World) (hT : Tabs w) (hM : MaxC w) (hr : RuleIn w r vh vf vb) (hlr : PartRow w vl l) :
  Calls Tryz.prog 11 #[ruleAgg r vh vf vb, vl, .int .i64 i] w (FlatP r (atZ r l i) w) :=
 (match_At r hs vh vf vb l hl vl i w hT hM hr hlr).mono fun _ _ h => h.flat (fun τ e => (binds_small e hl.1).1)
end Go.Proofs.YtlkheofphafofaaGreatDoor
namespace Go.Proofs.YtlkheofphafofaaGreatDoor
set_option linter.all false
attribute [local irreducible] Calls
open Go.RowKit

set_option maxRecDepth 100000 in
set_option maxHeartbeats 8000000 in
theorem law17_great (r : RuleM) (hs : SmallR r) (vh vf vb : Value) (l : List Prt) (hl : l.length ≤ 1048576) (vl : Value) (w : World) (hr : RuleIn w r vh vf vb) (hlr : PartRow w vl l) :
  Calls Tryz.prog 9 #[ruleAgg r vh vf vb, vl] w (AnyBool w) := by
 have HQ : RowKit.Hid (∀ z w', Below w.heap.size w w' → AnyBool w (.returned (.bool z)) w') := Lib.hid fun z w' hb => AnyBool.mk z hb
 generalize AnyBool w = Q at *
 obtain ⟨ah, ch, rfl, hch⟩ := Row.shape hr.H
 obtain ⟨af, cf, rfl, hcf⟩ := hr.F.slice
 obtain ⟨ab, cb, rfl, hcb⟩ := hr.B.slice
 obtain ⟨al, cl, rfl, hcl⟩ := hlr.slice
 have HIN := Lib.hid hr
 have HLR := Lib.hid hlr
 have HS := Lib.hid hs
 have HR1 : RowKit.Hid (RK (w.alloc (.cells #[.string r.nm, .int .u8 (r.goal : Int), .slice ah r.holes.length ch, .slice af r.fnd.length cf, .slice ab r.by'.length cb] 25)) w.heap.size r.nm r.goal (.slice ah r.holes.length ch) (.slice af r.fnd.length cf) (.slice ab r.by'.length cb)) := Lib.hid (heap_alloc_new _ _)
 have HB1 : RowKit.Hid (Below w.heap.size w (w.alloc (.cells #[.string r.nm, .int .u8 (r.goal : Int), .slice ah r.holes.length ch, .slice af r.fnd.length cf, .slice ab r.by'.length cb] 25))) := Lib.hid ((Below.refl _ _).alloc (Nat.le_refl _) _)
 clear hr hlr hs
 unfold ruleAgg
 go_enter Tryz.func9, Tryz.ntmps9
 go_upto_region 1 with (fail)
 generalize w.alloc (.cells #[.string r.nm, .int .u8 (r.goal : Int), .slice ah r.holes.length ch, .slice af r.fnd.length cf, .slice ab r.by'.length cb] 25) = W1 at *
 obtain ⟨e0, e1, e2, e3, e4⟩ := HR1.out.cells
 by_cases hbig : (150 : Int) < l.length
 ·have HX := Lib.hid (fun z => HQ.out z W1 HB1.out)
  go_wp2_with fail
  all_goals exact HX.out _
 have CG := Lib.hid (ref_Great [(r, .slice ah r.holes.length ch, .slice af r.fnd.length cf, .slice ab r.by'.length cb)] (fun x hx => by rw [List.mem_singleton] at hx; rw [hx]; exact HS.out) (by simp) _ 800 _ (lit_rule W1 (r, .slice ah r.holes.length ch, .slice af r.fnd.length cf, .slice ab r.by'.length cb) (HIN.out.below HB1.out)))
 have HB2 := Lib.hid (HB1.out.alloc HB1.out.size (.cells (ruleV (r, .slice ah r.holes.length ch, .slice af r.fnd.length cf, .slice ab r.by'.length cb)).toArray 25))
 have HR2 := Lib.hid (HR1.out.below ((Below.refl _ _).alloc (Nat.le_refl _) (.cells (ruleV (r, .slice ah r.holes.length ch, .slice af r.fnd.length cf, .slice ab r.by'.length cb)).toArray 25)))
 unfold ruleV at CG HB2 HR2
 simp only [] at CG HB2 HR2
 go_wp2_with fail
 refine CG.out.mono ?_
 intro e w3 h3
 obtain ⟨y, rfl, hb3⟩ := h3.out
 have HB3 := Lib.hid (bthen HB2.out hb3)
 have HR3 := Lib.hid (HR2.out.below hb3)
 clear h3 hb3 CG HB2 HR2 e0 e1 e2 e3 e4 HB1 HR1
 obtain ⟨e0, e1, e2, e3, e4⟩ := HR3.out.cells
 cases y with
 | true =>
  have HX := Lib.hid (fun z => HQ.out z w3 HB3.out)
  go_wp2_with fail
  all_goals exact HX.out _
 | false =>
 have CY := Lib.hid (ref_Ways17 r HS.out.h.1 _ _ _ l hl _ w3 (HIN.out.below HB3.out) (HLR.out.below HB3.out))
 unfold ruleAgg at CY
 go_wp2_with fail
 refine CY.out.mono ?_
 intro e w4 h4
 obtain ⟨z, rfl, hb4⟩ := h4.out
 have HX := Lib.hid (fun z => HQ.out z w4 (bthen HB3.out hb4))
 clear h4 hb4 CY
 go_wp2_with fail
 all_goals exact HX.out _
end Go.Proofs.YtlkheofphafofaaGreatDoor
