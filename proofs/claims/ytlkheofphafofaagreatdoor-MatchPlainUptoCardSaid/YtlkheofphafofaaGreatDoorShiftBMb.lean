/- Layer 17 in plain Lean: binds that are moved; how great they are. -/
import Derived.Test.YtlkheofphafofaaGreatDoorMapUMb
import Derived.Test.YtlkheofphafofaaGreatDoorRefOrdMb
import Derived.Test.YtlkheofphafofaaGreatDoorRuleVMb
import Derived.RangeFuncNested
import Derived.RangeFuncBound
import Derived.Test.YtlkheofphafofaaGreatDoorCoreMb
import Derived.Test.YtlkheofphafofaaGreatDoorRulesVMb
import Derived.Test.YtlkheofphafofaaGreatDoorAtWMb
import Derived.Test.YtlkheofphafofaaGreatDoorRuleCheckMb
import Derived.Test.YtlkheofphafofaaGreatDoorRefMAMb
import Derived.Test.YtlkheofphafofaaGreatDoorStillMb
import Derived.Deep.RegionHeld3
import Derived.Test.YtlkheofphafofaaGreatDoorFix17Mb
import Derived.Test.YtlkheofphafofaaGreatDoorTermSameMb
namespace Go.Proofs.YtlkheofphafofaaGreatDoor
set_option linter.all false

theorem binds_small {r : RuleM} {l : List Prt} {i : Int} {τ : MSt} (h : atZ r l i = some τ) (hl : l.length ≤ 1048576) : (bindsOf r.holes τ).length = r.holes.length ∧ ∀ b ∈ bindsOf r.holes τ, (0 ≤ b.2.1 ∧ b.2.1 ≤ 1048576) ∧ (0 ≤ b.2.2 ∧ b.2.2 ≤ 1048576) := by
 obtain ⟨h1, h2, h3, h4, h5, h6, h7⟩ := atZ_inv h
 refine ⟨by unfold bindsOf; rw [List.length_zipWith, h6, Nat.min_self], fun b hb => ?_⟩
 obtain ⟨k, hk, rfl⟩ := List.mem_iff_getElem.1 hb
 have hk2 : k < r.holes.length := by unfold bindsOf at hk; rw [List.length_zipWith] at hk; omega
 obtain ⟨q, hq, hg⟩ := h7 k hk2
 have hk3 : k < τ.length := by omega
 have e : τ[k] = some q := by rw [List.getElem?_eq_getElem hk3] at hq; exact Option.some.inj hq
 have e2 : (bindsOf r.holes τ)[k] = ((r.holes[k]).1, (q.1 : Int), (q.2 : Int)) := by
  apply Option.some.inj
  rw [← List.getElem?_eq_getElem hk]
  unfold bindsOf
  rw [List.getElem?_zipWith, List.getElem?_eq_getElem hk2, List.getElem?_eq_getElem hk3, e]
  rfl
 rw [e2]
 have he := (endB_gt (well_rows h2) (show i.toNat < l.length by omega)).2
 obtain ⟨g1, g2, g3, _⟩ := hg
 simp only []
 omega
end Go.Proofs.YtlkheofphafofaaGreatDoor
namespace Go.Proofs.YtlkheofphafofaaGreatDoor
set_option linter.all false

theorem treesZ_of {l : List Prt} {ts : List Nat} (h : rowsB l = some ts) : treesZ l = (ts.length : Int) := by unfold treesZ; rw [h]
theorem bindsOf_at {hs : List Hl} {τ : MSt} (hn : τ.length = hs.length) {h : Nat} (hh : h < hs.length) {q : Nat × Nat} (hq : τ[h]? = some (some q)) : ∃ h2 : h < (bindsOf hs τ).length, (bindsOf hs τ)[h] = ((hs[h]).1, (q.1 : Int), (q.2 : Int)) := by
 have h1 : h < τ.length := by omega
 have h2 : h < (bindsOf hs τ).length := by unfold bindsOf; rw [List.length_zipWith]; omega
 refine ⟨h2, ?_⟩
 have e : τ[h] = some q := by rw [List.getElem?_eq_getElem h1] at hq; exact Option.some.inj hq
 have e2 : (bindsOf hs τ)[h] = bindOf hs[h] τ[h] := List.getElem_zipWith
 rw [e2, e]; rfl
theorem found_val {r : RuleM} {l : List Prt} {i : Int} {τ : MSt} (h : atZ r l i = some τ) : (fun k => piece l (bOf (bindsOf r.holes τ) k).1 (bOf (bindsOf r.holes τ) k).2) = valOf l τ := by
 obtain ⟨h1, h2, h3, h4, h5, h6, h7⟩ := atZ_inv h
 funext k
 by_cases hk : k < r.holes.length
 ·obtain ⟨q, hq, _⟩ := h7 k hk
  obtain ⟨hb, e⟩ := bindsOf_at h6 hk hq
  unfold valOf
  rw [hq, bOf_at hb, e]
  simp
 ·have e1 : τ[k]? = none := List.getElem?_eq_none (by omega)
  have e2 : (bindsOf r.holes τ)[k]? = none := List.getElem?_eq_none (by unfold bindsOf; rw [List.length_zipWith]; omega)
  unfold valOf bOf
  rw [e1, e2]
  exact piece_self l 0
theorem found_hole {r : RuleM} {l : List Prt} {i : Nat} {τ : MSt} (h : atZ r l (i : Int) = some τ) {k : Nat} (hk : k < r.holes.length) : ∃ q1 q2 n : Nat, (∃ hb : k < (bindsOf r.holes τ).length, (bindsOf r.holes τ)[k] = ((r.holes[k]).1, (q1 : Int), (q2 : Int))) ∧ i ≤ q1 ∧ q1 ≤ q2 ∧ q2 ≤ endB l i ∧ treesZ (piece l q1 q2) = (n : Int) ∧ (isSev (r.holes[k]).2 = false → n = 1 ∧ q1 < l.length ∧ mayB (r.holes[k]).2 (kindAt l q1) = true) := by
 obtain ⟨h1, h2, h3, h4, h5, h6, h7⟩ := atZ_inv h
 obtain ⟨q, hq, g1, g2, g3, ⟨K, g4⟩, g5⟩ := h7 k hk
 rw [show ((i : Int)).toNat = i by omega] at g1 g3
 have hl := well_rows h2
 have he := endB_gt hl (show i < l.length by omega)
 obtain ⟨ts, t1, t2⟩ := adv_rows hl K q.1 q.2 (by omega) g4
 have hkd : hkind r.holes k = (r.holes[k]).2 := by unfold hkind; rw [List.getElem?_eq_getElem hk]
 rw [hkd] at g5
 refine ⟨q.1, q.2, ts.length, bindsOf_at h6 hk hq, g1, g2, g3, treesZ_of t1, fun hs => ?_⟩
 obtain ⟨a1, a2, a3⟩ := g5 hs
 obtain ⟨t, ht⟩ := piece_one hl a1
 rw [a2, t1] at ht
 cases ht
 exact ⟨rfl, a1, a3⟩
theorem found_inst {r : RuleM} {l : List Prt} {i : Int} {τ : MSt} (h : atZ r l i = some τ) : BindsIn (bindsOf r.holes τ) l ∧ (∀ k, ∃ ts, rowsB (piece l (bOf (bindsOf r.holes τ) k).1 (bOf (bindsOf r.holes τ) k).2) = some ts) ∧ (mPart r.fnd l r.holes (bOf (bindsOf r.holes τ)) (fuelZ r.fnd) 0).map (·.1) = piece l i.toNat (endB l i.toNat) := by
 obtain ⟨h1, h2, h3, h4, h5, h6, h7⟩ := atZ_inv h
 have hl := well_rows h2
 have he := endB_gt hl (show i.toNat < l.length by omega)
 have hb : BindsIn (bindsOf r.holes τ) l := by
  intro x hx
  obtain ⟨k, hk, rfl⟩ := List.mem_iff_getElem.1 hx
  have hk' : k < r.holes.length := by unfold bindsOf at hk; rw [List.length_zipWith] at hk; omega
  obtain ⟨q, hq, g1, g2, g3, _, _⟩ := h7 k hk'
  obtain ⟨_, e⟩ := bindsOf_at h6 hk' hq
  rw [e]
  simp only []
  omega
 refine ⟨hb, fun k => ?_, ?_⟩
 ·have e : piece l (bOf (bindsOf r.holes τ) k).1 (bOf (bindsOf r.holes τ) k).2 = valOf l τ k := congrFun (found_val h) k
  rw [e]
  unfold valOf
  by_cases hk : k < r.holes.length
  ·obtain ⟨q, hq, g1, g2, g3, ⟨K, g4⟩, _⟩ := h7 k hk
   obtain ⟨ts, t1, _⟩ := adv_rows hl K q.1 q.2 (by omega) g4
   rw [hq]
   exact ⟨ts, t1⟩
  ·rw [List.getElem?_eq_none (by omega)]
   exact ⟨[], rowsB_nil⟩
 ·rw [(m_inst r.fnd l r.holes (bOf (bindsOf r.holes τ)) (bOf_in hb) (fuelZ r.fnd)).1 0, found_val h]
  exact atZ_inst h
section
variable (t : List Prt) (hs : List Hl) (b : Nat → Nat × Nat)
end
section
variable {t l : List Prt} {hs : List Hl} {b : Nat → Nat × Nat}
end
end Go.Proofs.YtlkheofphafofaaGreatDoor
namespace Go.Proofs.YtlkheofphafofaaGreatDoor
set_option linter.all false
open Go.RowKit

section
variable {P : Program} {α : Type}
end
end Go.Proofs.YtlkheofphafofaaGreatDoor
namespace Go.Proofs.YtlkheofphafofaaGreatDoor
set_option linter.all false
open Go.RowKit

abbrev MchX := Mch × Value
def mchV (x : MchX) : List Value := [.int .i64 (x.1.1 : Int), .int .i64 (x.1.2.1 : Int), x.2]
def mchsV (xs : List MchX) : List Value := xs.flatMap mchV
structure KpF (B : Nat) (bx : Option Nat) (W W' : World) : Prop where
 os : W'.os = W.os
 tape : W'.tape = W.tape
 output : W'.output = W.output
 size : W.heap.size ≤ W'.heap.size
 low : ∀ k, k < B → k < W.heap.size → W'.heap[k]? = W.heap[k]?
 cells : ∀ k cs T fr, W.heap[k]? = some (.cells cs T fr) → T ≠ 95 → T ≠ 58 → some k ≠ bx → W'.heap[k]? = W.heap[k]?
theorem KpF.of_below {B : Nat} {bx : Option Nat} {W W' : World} (h : Below W.heap.size W W') : KpF B bx W W' :=
 ⟨h.os, h.tape, h.output, h.size, fun k _ hk => h.block k hk, fun k cs T fr hc _ _ _ => h.block k (keeps_lt hc)⟩
theorem KpF.trans {B : Nat} {bx : Option Nat} {a b c : World} (h : KpF B bx a b) (k : KpF B bx b c) : KpF B bx a c :=
 ⟨k.os.trans h.os, k.tape.trans h.tape, k.output.trans h.output, Nat.le_trans h.size k.size, fun i h1 h2 => (k.low i h1 (Nat.lt_of_lt_of_le h2 h.size)).trans (h.low i h1 h2),
  fun i cs T fr hc h1 h2 h3 => by
   have e := h.cells i cs T fr hc h1 h2 h3
   exact (k.cells i cs T fr (e.trans hc) h1 h2 h3).trans e⟩
theorem KpF.put {B : Nat} {bx : Option Nat} {W : World} {D : Nat} {r : Loop} (o : Obj) (hB : B ≤ D) (h : W.heap[D]? = some (.loop r)) : KpF B bx W (W.putObj D o) :=
 ⟨rfl, rfl, rfl, by simp [World.putObj], fun k h1 _ => World.putObj_heap_other (by omega), fun k cs T fr hc _ _ _ => World.putObj_heap_other (fun e => by subst e; rw [h] at hc; cases hc)⟩
theorem KpF.below {bx : Option Nat} {w W W' : World} (hb : Below w.heap.size w W) (h : KpF w.heap.size bx W W') : Below w.heap.size w W' :=
 ⟨h.os.trans hb.os, h.tape.trans hb.tape, h.output.trans hb.output, Nat.le_trans hb.size h.size, fun k hk => (h.low k hk (Nat.lt_of_lt_of_le hk hb.size)).trans (hb.block k hk)⟩
theorem KpF.row {B : Nat} {bx : Option Nat} {W W' : World} (h : KpF B bx W W') {C : Nat} {e : TypeId} {size n : Nat} {v : Value} {xs : List Value} (hr : W.ownsRow C e size v n xs) (h1 : e ≠ 95) (h2 : e ≠ 58) (hx : ∀ k, bx = some k → k < C) : W'.ownsRow C e size v n xs := by
 obtain ⟨g1, g2⟩ := hr
 refine ⟨g1, ?_⟩
 rcases g2 with g2 | ⟨k, cap, cur, hv, hk, hh, r⟩
 ·exact Or.inl g2
 ·exact Or.inr ⟨k, cap, cur, hv, hk, (h.cells k _ _ _ hh h1 h2 (fun e => by have := hx k e.symm; omega)).trans hh, r⟩
structure EchW (w : World) (m : Nat) (bx : Option Nat) (cl cr : Nat) (vl vr : Value) (W : World) : Prop where
 below : Below w.heap.size w W
 L : W.heap[cl]? = some (.cells #[vl] 23 (0, 0))
 R : W.heap[cr]? = some (.cells #[vr] 34 (0, 0))
 lt : m ≤ cl ∧ m ≤ cr ∧ w.heap.size ≤ m
 bx : ∀ k, bx = some k → k < m
theorem EchW.ext {w : World} {m : Nat} {bx : Option Nat} {cl cr : Nat} {vl vr : Value} {W W' : World} (h : EchW w m bx cl cr vl vr W) (hb : Below W.heap.size W W') : EchW w m bx cl cr vl vr W' :=
 ⟨bthen h.below hb, keeps hb h.L, keeps hb h.R, h.lt, h.bx⟩
theorem EchW.kp {w : World} {m : Nat} {bx : Option Nat} {cl cr : Nat} {vl vr : Value} {W W' : World} (h : EchW w m bx cl cr vl vr W) (k : KpF w.heap.size bx W W') : EchW w m bx cl cr vl vr W' :=
 ⟨k.below h.below, (k.cells _ _ _ _ h.L (by decide) (by decide) (fun e => by have := h.bx _ e.symm; have := h.lt; omega)).trans h.L, (k.cells _ _ _ _ h.R (by decide) (by decide) (fun e => by have := h.bx _ e.symm; have := h.lt; omega)).trans h.R, h.lt, h.bx⟩
theorem EchW.cells {w : World} {m : Nat} {bx : Option Nat} {cl cr : Nat} {vl vr : Value} {W : World} (h : EchW w m bx cl cr vl vr W) : W.cell? ⟨cl, 0, none⟩ = some vl ∧ W.cell? ⟨cr, 0, none⟩ = some vr := by
 simp only [World.cell?, h.L, h.R]
 exact ⟨rfl, rfl⟩
theorem EchW.part {w : World} {m : Nat} {bx : Option Nat} {cl cr : Nat} {vl vr : Value} {W W' : World} (h : EchW w m bx cl cr vl vr W) (k : KpF w.heap.size bx W W') {g : Nat} {p : Prt} (hg : m ≤ g) (hp : PK W g p) : PK W' g p := by
 unfold PK at *
 exact (k.cells _ _ _ _ hp (by decide) (by decide) (fun e => by have := h.bx _ e.symm; omega)).trans hp
theorem EchW.rule {w : World} {m : Nat} {bx : Option Nat} {cl cr : Nat} {vl vr : Value} {W W' : World} (h : EchW w m bx cl cr vl vr W) (k : KpF w.heap.size bx W W') {g : Nat} {nm : ByteArray} {goal : Nat} {vh vf vb : Value} (hg : m ≤ g) (hp : RK W g nm goal vh vf vb) : RK W' g nm goal vh vf vb := by
 unfold RK at *
 exact (k.cells _ _ _ _ hp (by decide) (by decide) (fun e => by have := h.bx _ e.symm; omega)).trans hp
end Go.Proofs.YtlkheofphafofaaGreatDoor
namespace Go.Proofs.YtlkheofphafofaaGreatDoor
set_option linter.all false
attribute [local irreducible] Calls
attribute [local irreducible] wpStill
open Go.RowKit

structure MchsIn (w : World) (v : Value) (xs : List MchX) : Prop where
 R : Row w v xs.length 3 (mchsV xs)
 E : ∀ x ∈ xs, BindRow w x.2 x.1.2.2
theorem MchsIn.below {w w' : World} {v : Value} {xs : List MchX} (h : MchsIn w v xs) (hb : Below w.heap.size w w') : MchsIn w' v xs := ⟨Row.below h.R hb, fun x hx => (h.E x hx).below hb⟩
theorem MchsIn.shape {w : World} {v : Value} {xs : List MchX} (h : MchsIn w v xs) : ∃ a cap, v = .slice a xs.length cap ∧ xs.length ≤ cap := Row.shape h.R
theorem MchsIn.at {w w' : World} {a : Option Addr} {n cap : Nat} {xs : List MchX} (h : MchsIn w (.slice a n cap) xs) (hb : Below w.heap.size w w') (hp : 0 < xs.length) :
  ∃ b off, a = some ⟨b, off, none⟩ ∧ xs.length ≤ cap ∧ b < w.heap.size ∧ ∀ i (hi : i < xs.length),
   w'.cell? ⟨b, off + i * 3, none⟩ = some (.int .i64 (xs[i].1.1 : Int)) ∧ w'.cell? ⟨b, off + i * 3 + 1, none⟩ = some (.int .i64 (xs[i].1.2.1 : Int)) ∧ w'.cell? ⟨b, off + i * 3 + 2, none⟩ = some xs[i].2 := by
 obtain ⟨b, off, cap', hv, hc, hlt, hcell⟩ := Row.cells h.R hb hp
 simp only [Value.slice.injEq] at hv
 obtain ⟨rfl, rfl, rfl⟩ := hv
 have key : ∀ i (hi : i < xs.length) (j : Nat), j < 3 → w'.cell? ⟨b, off + i * 3 + j, none⟩ = (mchV xs[i])[j]? := fun i hi j hj => by
  rw [Nat.add_assoc, hcell _ (by omega)]
  exact flat_at (g := mchV) (sz := 3) (fun _ => rfl) xs i j hi hj
 exact ⟨b, off, rfl, hc, hlt, fun i hi => ⟨key i hi 0 (by omega), key i hi 1 (by omega), key i hi 2 (by omega)⟩⟩
end Go.Proofs.YtlkheofphafofaaGreatDoor
namespace Go.Proofs.YtlkheofphafofaaGreatDoor
set_option linter.all false
open Go.RowKit

structure HeldM (w : World) : Prop where
 T : Tabs w
 M : MaxC w
theorem HeldM.below {w w' : World} (h : HeldM w) (hb : Below w.heap.size w w') : HeldM w' := ⟨h.T.below hb, h.M.below hb⟩
@[irreducible] def AnswersM (w : World) (e : Ending) (w' : World) : Prop := e = .returned (.bool true) ∧ Below w.heap.size w w'
theorem AnswersM.mk {w w' : World} (h : Below w.heap.size w w') : AnswersM w (.returned (.bool true)) w' := by unfold AnswersM; exact ⟨rfl, h⟩
theorem AnswersM.out {w w' : World} {e : Ending} (h : AnswersM w e w') : e = .returned (.bool true) ∧ Below w.heap.size w w' := by unfold AnswersM at h; exact h
theorem lit_rule (w : World) (x : RuleX) (h : RuleIn w x.1 x.2.1 x.2.2.1 x.2.2.2) : RulesIn (w.alloc (.cells (ruleV x).toArray 25)) (.slice (some ⟨w.heap.size, 0, none⟩) 1 1) [x] := by
 have h1 : (w.alloc (.cells (ruleV x).toArray 25)).ownsRow 0 25 5 (.slice (some ⟨w.heap.size, 0, none⟩) 1 1) 1 (ruleV x) := by
  refine ⟨rfl, Or.inr ⟨w.heap.size, 1, (ruleV x).toArray, rfl, Nat.zero_le _, heap_alloc_new _ _, Nat.le_refl _, by unfold maxLen; omega, rfl, by simp [ruleV]⟩⟩
 refine ⟨?_, fun y hy => ?_⟩
 ·have := Row.of_owns h1
  simpa using this
 ·obtain rfl : y = x := by simpa using hy
  exact h.below ((Below.refl _ _).alloc (Nat.le_refl _) _)
theorem piece_small {l : List Prt} (h : SmallL l) (a b : Nat) : SmallL (piece l a b) := by
 obtain ⟨q1, q2⟩ := h
 unfold piece
 exact ⟨by rw [List.length_take, List.length_drop]; omega, fun x hx => q2 x (List.mem_of_mem_drop (List.mem_of_mem_take hx))⟩
end Go.Proofs.YtlkheofphafofaaGreatDoor
namespace Go.Proofs.YtlkheofphafofaaGreatDoor
set_option linter.all false
attribute [local irreducible] Calls
open Go.RowKit

def bndO (r : RuleM) (o : Option MSt) : List Bnd := match o with
 | some τ => bindsOf r.holes τ
 | none => []
def FlatP (r : RuleM) (o : Option MSt) (w0 : World) (e : Ending) (w' : World) : Prop :=
 ∃ a c, e = .returned (.tuple #[.slice a (bndO r o).length c, .bool o.isSome]) ∧ (bndO r o).length ≤ c ∧ BindRow w' (.slice a (bndO r o).length c) (bndO r o) ∧ Below w0.heap.size w0 w'
theorem atPost.flat {r : RuleM} {o : Option MSt} {w0 w' : World} {e : Ending} (h : atPost r o w0 e w') (hl : ∀ τ, o = some τ → (bindsOf r.holes τ).length = r.holes.length) : FlatP r o w0 e w' := by
 unfold atPost at h
 obtain ⟨hb, h⟩ := h
 cases o with
 | none =>
  simp only [] at h
  subst h
  exact ⟨none, 0, rfl, Nat.le_refl _, ⟨rfl, none, 0, rfl, Nat.le_refl _, fun _ => rfl, fun h => absurd h (by simp [bndO])⟩, hb⟩
 | some τ =>
  simp only [] at h
  obtain ⟨vb, rfl, ho⟩ := h
  have e1 := hl τ rfl
  have h1 : BindRow w' vb (bindsOf r.holes τ) := by unfold BindRow; rw [e1]; exact Row.of_owns ho
  obtain ⟨a, c, rfl, hc⟩ := Row.shape h1
  exact ⟨a, c, rfl, hc, h1, hb⟩
theorem at_flat (r : RuleM) (hs : SmallR r) (vh vf vb : Value) (l : List Prt) (hl : SmallL l) (vl : Value) (i : Int) (w : World) (hT : Tabs w) (hM : MaxC w) (hr : RuleIn w r vh vf vb) (hlr : PartRow w vl l) :
  Calls Tryz.prog 11 #[ruleAgg r vh vf vb, vl, .int .i64 i] w (FlatP r (atZ r l i) w) :=
 (match_At r hs vh vf vb l hl vl i w hT hM hr hlr).mono fun _ _ h => h.flat (fun τ e => (binds_small e hl.1).1)
end Go.Proofs.YtlkheofphafofaaGreatDoor
