/- Layer 17 in plain Lean: binds that are moved; how great they are. -/
import Derived.Test.YtlkheofphafofaaGreatDoorMapUMd
import Derived.Test.YtlkheofphafofaaGreatDoorRuleVMd
import Derived.RangeFuncNested
import Derived.RangeFuncBound
import Derived.Test.YtlkheofphafofaaGreatDoorCoreMd
import Derived.Test.YtlkheofphafofaaGreatDoorRulesVMd
import Derived.Test.YtlkheofphafofaaGreatDoorAtWMd
import Derived.Test.YtlkheofphafofaaGreatDoorRuleCheckMd
import Derived.Test.YtlkheofphafofaaGreatDoorRefMAMd
import Derived.Test.YtlkheofphafofaaGreatDoorStillMd
import Derived.Deep.RegionHeld3
import Derived.Test.YtlkheofphafofaaGreatDoorFix17Md
import Derived.Test.YtlkheofphafofaaGreatDoorTermSameMd
import Derived.Test.YtlkheofphafofaaGreatDoorRuleCMd
import Derived.BigQuiet
import Derived.Deep.QuietTactic
namespace Go.Proofs.YtlkheofphafofaaGreatDoor
set_option linter.all false

theorem binds_small {r : RuleM} {l : List Prt} {i : Int} {τ : MSt} (h : atZ r l i = some τ) (hl : l.length ≤ 1048576) : (bindsOf r.holes τ).length = r.holes.length ∧ ∀ b ∈ bindsOf r.holes τ, (0 ≤ b.2.1 ∧ b.2.1 ≤ 1048576) ∧ (0 ≤ b.2.2 ∧ b.2.2 ≤ 1048576) := by
 obtain ⟨h1, h2, h3, h4, h5, h6, h7⟩ := atZ_inv h
 refine ⟨by unfold bindsOf; rw [List.length_zipWith, h6, Nat.min_self], fun b hb => ?_⟩
 obtain ⟨k, hk, rfl⟩ := List.mem_iff_getElem.1 hb
 have hk2 : k < r.holes.length := by unfold bindsOf at hk; rw [List.length_zipWith] at hk; omega
 obtain ⟨q, hq, hg⟩ := h7 k hk2
 have hk3 : k < τ.length := by omega
 have e : τ[k] = some q := by rw [List.getElem?_eq_getElem hk3] at hq; exact Option.some.inj hq
 have e2 : (bindsOf r.holes τ)[k] = ((r.holes[k]).1, (q.1 : Int), (q.2 : Int)) := by
  apply Option.some.inj
  rw [← List.getElem?_eq_getElem hk]
  unfold bindsOf
  rw [List.getElem?_zipWith, List.getElem?_eq_getElem hk2, List.getElem?_eq_getElem hk3, e]
  rfl
 rw [e2]
 have he := (endB_gt (well_rows h2) (show i.toNat < l.length by omega)).2
 obtain ⟨g1, g2, g3, _⟩ := hg
 simp only []
 omega
end Go.Proofs.YtlkheofphafofaaGreatDoor
namespace Go.Proofs.YtlkheofphafofaaGreatDoor
set_option linter.all false

theorem treesZ_of {l : List Prt} {ts : List Nat} (h : rowsB l = some ts) : treesZ l = (ts.length : Int) := by unfold treesZ; rw [h]
theorem treesZ_rows {l : List Prt} (h : 0 ≤ treesZ l) : ∃ ts, rowsB l = some ts ∧ treesZ l = (ts.length : Int) := by
 cases e : rowsB l with
 | none => unfold treesZ at h; rw [e] at h; simp at h
 | some ts => exact ⟨ts, rfl, treesZ_of e⟩
theorem bindsOf_at {hs : List Hl} {τ : MSt} (hn : τ.length = hs.length) {h : Nat} (hh : h < hs.length) {q : Nat × Nat} (hq : τ[h]? = some (some q)) : ∃ h2 : h < (bindsOf hs τ).length, (bindsOf hs τ)[h] = ((hs[h]).1, (q.1 : Int), (q.2 : Int)) := by
 have h1 : h < τ.length := by omega
 have h2 : h < (bindsOf hs τ).length := by unfold bindsOf; rw [List.length_zipWith]; omega
 refine ⟨h2, ?_⟩
 have e : τ[h] = some q := by rw [List.getElem?_eq_getElem h1] at hq; exact Option.some.inj hq
 have e2 : (bindsOf hs τ)[h] = bindOf hs[h] τ[h] := List.getElem_zipWith
 rw [e2, e]; rfl
theorem found_val {r : RuleM} {l : List Prt} {i : Int} {τ : MSt} (h : atZ r l i = some τ) : (fun k => piece l (bOf (bindsOf r.holes τ) k).1 (bOf (bindsOf r.holes τ) k).2) = valOf l τ := by
 obtain ⟨h1, h2, h3, h4, h5, h6, h7⟩ := atZ_inv h
 funext k
 by_cases hk : k < r.holes.length
 ·obtain ⟨q, hq, _⟩ := h7 k hk
  obtain ⟨hb, e⟩ := bindsOf_at h6 hk hq
  unfold valOf
  rw [hq, bOf_at hb, e]
  simp
 ·have e1 : τ[k]? = none := List.getElem?_eq_none (by omega)
  have e2 : (bindsOf r.holes τ)[k]? = none := List.getElem?_eq_none (by unfold bindsOf; rw [List.length_zipWith]; omega)
  unfold valOf bOf
  rw [e1, e2]
  exact piece_self l 0
theorem found_hole {r : RuleM} {l : List Prt} {i : Nat} {τ : MSt} (h : atZ r l (i : Int) = some τ) {k : Nat} (hk : k < r.holes.length) : ∃ q1 q2 n : Nat, (∃ hb : k < (bindsOf r.holes τ).length, (bindsOf r.holes τ)[k] = ((r.holes[k]).1, (q1 : Int), (q2 : Int))) ∧ i ≤ q1 ∧ q1 ≤ q2 ∧ q2 ≤ endB l i ∧ treesZ (piece l q1 q2) = (n : Int) ∧ (isSev (r.holes[k]).2 = false → n = 1 ∧ q1 < l.length ∧ mayB (r.holes[k]).2 (kindAt l q1) = true) := by
 obtain ⟨h1, h2, h3, h4, h5, h6, h7⟩ := atZ_inv h
 obtain ⟨q, hq, g1, g2, g3, ⟨K, g4⟩, g5⟩ := h7 k hk
 rw [show ((i : Int)).toNat = i by omega] at g1 g3
 have hl := well_rows h2
 have he := endB_gt hl (show i < l.length by omega)
 obtain ⟨ts, t1, t2⟩ := adv_rows hl K q.1 q.2 (by omega) g4
 have hkd : hkind r.holes k = (r.holes[k]).2 := by unfold hkind; rw [List.getElem?_eq_getElem hk]
 rw [hkd] at g5
 refine ⟨q.1, q.2, ts.length, bindsOf_at h6 hk hq, g1, g2, g3, treesZ_of t1, fun hs => ?_⟩
 obtain ⟨a1, a2, a3⟩ := g5 hs
 obtain ⟨t, ht⟩ := piece_one hl a1
 rw [a2, t1] at ht
 cases ht
 exact ⟨rfl, a1, a3⟩
theorem found_inst {r : RuleM} {l : List Prt} {i : Int} {τ : MSt} (h : atZ r l i = some τ) : BindsIn (bindsOf r.holes τ) l ∧ (∀ k, ∃ ts, rowsB (piece l (bOf (bindsOf r.holes τ) k).1 (bOf (bindsOf r.holes τ) k).2) = some ts) ∧ (mPart r.fnd l r.holes (bOf (bindsOf r.holes τ)) (fuelZ r.fnd) 0).map (·.1) = piece l i.toNat (endB l i.toNat) := by
 obtain ⟨h1, h2, h3, h4, h5, h6, h7⟩ := atZ_inv h
 have hl := well_rows h2
 have he := endB_gt hl (show i.toNat < l.length by omega)
 have hb : BindsIn (bindsOf r.holes τ) l := by
  intro x hx
  obtain ⟨k, hk, rfl⟩ := List.mem_iff_getElem.1 hx
  have hk' : k < r.holes.length := by unfold bindsOf at hk; rw [List.length_zipWith] at hk; omega
  obtain ⟨q, hq, g1, g2, g3, _, _⟩ := h7 k hk'
  obtain ⟨_, e⟩ := bindsOf_at h6 hk' hq
  rw [e]
  simp only []
  omega
 refine ⟨hb, fun k => ?_, ?_⟩
 ·have e : piece l (bOf (bindsOf r.holes τ) k).1 (bOf (bindsOf r.holes τ) k).2 = valOf l τ k := congrFun (found_val h) k
  rw [e]
  unfold valOf
  by_cases hk : k < r.holes.length
  ·obtain ⟨q, hq, g1, g2, g3, ⟨K, g4⟩, _⟩ := h7 k hk
   obtain ⟨ts, t1, _⟩ := adv_rows hl K q.1 q.2 (by omega) g4
   rw [hq]
   exact ⟨ts, t1⟩
  ·rw [List.getElem?_eq_none (by omega)]
   exact ⟨[], rowsB_nil⟩
 ·rw [(m_inst r.fnd l r.holes (bOf (bindsOf r.holes τ)) (bOf_in hb) (fuelZ r.fnd)).1 0, found_val h]
  exact atZ_inst h
section
variable (t : List Prt) (hs : List Hl) (b : Nat → Nat × Nat)
def lenAt (p : Nat) : Nat := match holeOf t hs p with
 | some h => (b h).2 - (b h).1
 | none => 0
def sumH : Nat → Nat
 | 0 => 0
 | p + 1 => sumH p + lenAt t hs b p
theorem sumH_le (p : Nat) : ∀ k, sumH t hs b p ≤ sumH t hs b (p + k)
 | 0 => Nat.le_refl _
 | k + 1 => by
  have := sumH_le p k
  rw [← Nat.add_assoc, sumH]; omega
theorem sizeS_end : ∀ n p, t.length ≤ p → sizeS t hs b n p = 0
 | 0, p, h => by rw [sizeS]
 | n + 1, p, h => by rw [sizeS, if_neg (by omega)]
theorem size_sum : ∀ n p, p ≤ t.length → sizeS t hs b n p + sumH t hs b p ≤ (t.length - p) + sumH t hs b t.length
 | 0, p, h => by
  have := sumH_le t hs b p (t.length - p)
  rw [show p + (t.length - p) = t.length by omega] at this
  rw [sizeS]; omega
 | n + 1, p, h => by
  by_cases hp : p < t.length
  ·have h1 := size_sum n (p + 1) (by omega)
   have h2 : sumH t hs b (p + 1) = sumH t hs b p + lenAt t hs b p := rfl
   rw [sizeS, if_pos hp]
   cases ho : holeOf t hs p with
   | none =>
    simp only []
    omega
   | some k =>
    have h3 : lenAt t hs b p = (b k).2 - (b k).1 := by unfold lenAt; rw [ho]
    simp only []
    split
    ·by_cases h4 : p + 2 ≤ t.length
     ·have h5 := size_sum n (p + 2) h4
      have h6 : sumH t hs b (p + 2) = sumH t hs b (p + 1) + lenAt t hs b (p + 1) := rfl
      omega
     ·rw [sizeS_end t hs b n (p + 2) (by omega)]
      have h5 := sumH_le t hs b (p + 1) (t.length - (p + 1))
      rw [show p + 1 + (t.length - (p + 1)) = t.length by omega] at h5
      omega
    ·omega
  ·obtain rfl : p = t.length := by omega
   rw [sizeS_end t hs b (n + 1) t.length (Nat.le_refl _)]
   omega
theorem mPart_total (l : List Prt) (H : HolesOK t hs) : (mPart t l hs b (fuelZ t) 0).length ≤ t.length + sumH t hs b t.length := by
 have h1 := m_total t l hs b H
 have h2 := size_sum t hs b t.length 0 (Nat.zero_le _)
 have h3 : sumH t hs b 0 = 0 := rfl
 omega
end
section
variable {t l : List Prt} {hs : List Hl} {b : Nat → Nat × Nat}
theorem pt_small (hl : SmallL l) (i : Nat) : (ptAt l i).1 < 256 ∧ (ptAt l i).2.2.size ≤ 1048576 := by
 unfold ptAt
 by_cases h : i < l.length
 ·have := hl.2 _ (List.getElem_mem h)
  simpa [List.getD_eq_getElem?_getD, h] using this
 ·rw [List.getD_eq_getElem?_getD, List.getElem?_eq_none (by omega)]
  decide
theorem m_small (ht : SmallL t) (hl : SmallL l) : ∀ n, (∀ p, ∀ x ∈ mPart t l hs b n p, x.1.1 < 256 ∧ x.1.2.2.size ≤ 1048576) ∧ (∀ p pend, ∀ x ∈ mKids t l hs b n p pend, x.1.1 < 256 ∧ x.1.2.2.size ≤ 1048576)
 | 0 => ⟨(fun p x hx => by rw [mPart] at hx; cases hx), (fun p pend x hx => by rw [mKids] at hx; cases hx)⟩
 | n + 1 => by
  obtain ⟨h1, h2⟩ := m_small ht hl n
  constructor
  ·intro p x hx
   rw [mPart] at hx
   cases ho : holeOf t hs p with
   | some h =>
    rw [ho] at hx
    simp only [] at hx
    unfold srcL at hx
    obtain ⟨k, _, rfl⟩ := List.mem_map.1 hx
    exact pt_small hl k
   | none =>
    rw [ho] at hx
    simp only [] at hx
    cases hp : t[p]? with
    | none => rw [hp] at hx; cases hx
    | some a =>
     rw [hp] at hx
     simp only [] at hx
     rcases List.mem_cons.1 hx with rfl | hx
     ·obtain ⟨hp', rfl⟩ := List.getElem?_eq_some_iff.1 hp
      have := ht.2 _ (List.getElem_mem hp')
      exact this
     ·exact h2 _ _ x hx
  ·intro p pend x hx
   rw [mKids] at hx
   split at hx
   ·cases hx
   ·rcases List.mem_append.1 hx with hx | hx
    ·exact h1 _ x hx
    ·exact h2 _ _ x hx
theorem inst_small {n p : Nat} (ht : SmallL t) (hl : SmallL l) (hn : (mPart t l hs b n p).length ≤ 1048576) : SmallL ((mPart t l hs b n p).map (·.1)) := by
 refine ⟨by rw [List.length_map]; exact hn, fun q hq => ?_⟩
 obtain ⟨x, hx, rfl⟩ := List.mem_map.1 hq
 exact (m_small ht hl n).1 p x hx
end
def MadeAt (r : RuleM) (l : List Prt) (bs : List Bnd) (h : Nat) : Prop := ∀ hh : h < bs.length, (0 ≤ (bs[h]).2.1 ∧ (bs[h]).2.1 ≤ (bs[h]).2.2 ∧ (bs[h]).2.2 ≤ l.length) ∧ 0 ≤ treesZ (piece l (bs[h]).2.1.toNat (bs[h]).2.2.toNat) ∧ (isSev (hkind r.holes h) = false → treesZ (piece l (bs[h]).2.1.toNat (bs[h]).2.2.toNat) = 1 ∧ mayB (hkind r.holes h) (kindAt l (bs[h]).2.1.toNat) = true)
theorem kind_piece {l : List Prt} {a b t : Nat} (h : rowsB (piece l a b) = some [t]) : kindAt (piece l a b) 0 = kindAt l a := by
 have h1 := (rowsB_sum h).2.1
 have h2 : 0 < (piece l a b).length := by
  have h3 := (rowsB_sum h).1
  have h4 := (rowsB_sum h).2.2 t (by simp)
  simp at h3
  omega
 have h3 : 0 < b - a := by
  unfold piece at h2
  rw [List.length_take] at h2
  omega
 unfold kindAt piece
 rw [List.getElem?_take_of_lt h3, List.getElem?_drop, Nat.add_zero]
theorem made_inst {r : RuleM} {l : List Prt} {bs : List Bnd} (hr : ruleZ r = 0) (hl : wellB l = true) (hn : bs.length = r.holes.length) (hm : ∀ h, h < bs.length → MadeAt r l bs h) :
  BindsIn bs l ∧ (∀ h, ∃ ts, rowsB (piece l (bOf bs h).1 (bOf bs h).2) = some ts) ∧ wellB ((mPart r.fnd l r.holes (bOf bs) (fuelZ r.fnd) 0).map (·.1)) = true ∧ ∃ τ, atZ r ((mPart r.fnd l r.holes (bOf bs) (fuelZ r.fnd) 0).map (·.1)) ((0 : Nat) : Int) = some τ := by
 have H := (rule_holes hr).1
 have hb : BindsIn bs l := by
  intro x hx
  obtain ⟨k, hk, rfl⟩ := List.mem_iff_getElem.1 hx
  exact (hm k hk hk).1
 have hv : ∀ h, ∃ ts, rowsB (piece l (bOf bs h).1 (bOf bs h).2) = some ts := by
  intro h
  by_cases hh : h < bs.length
  ·obtain ⟨ts, e, _⟩ := treesZ_rows (hm h hh hh).2.1
   exact ⟨ts, by rw [bOf_at hh]; exact e⟩
  ·refine ⟨[], ?_⟩
   unfold bOf
   rw [List.getElem?_eq_none (by omega)]
   rw [piece_self]; exact rowsB_nil
 have hV : VOK r.holes (fun h => piece l (bOf bs h).1 (bOf bs h).2) := by
  intro h
  refine ⟨hv h, fun h1 h2 => ?_⟩
  have hh : h < bs.length := by omega
  obtain ⟨o1, o2⟩ := (hm h hh hh).2.2 h2
  obtain ⟨ts, e, e2⟩ := treesZ_rows (hm h hh hh).2.1
  rw [o1] at e2
  match ts, e, e2 with
  | [t], e, _ =>
   have e' : rowsB (piece l (bOf bs h).1 (bOf bs h).2) = some [t] := by rw [bOf_at hh]; exact e
   refine ⟨⟨t, e'⟩, ?_⟩
   rw [kind_piece e', bOf_at hh]
   exact o2
  | [], _, e2 => simp at e2
  | _ :: _ :: _, _, e2 => simp at e2; omega
 have e1 : (mPart r.fnd l r.holes (bOf bs) (fuelZ r.fnd) 0).map (·.1) = instZ r.fnd r.holes (fun h => piece l (bOf bs h).1 (bOf bs h).2) := (m_inst r.fnd l r.holes (bOf bs) (bOf_in hb) (fuelZ r.fnd)).1 0
 have hw : wellB ((mPart r.fnd l r.holes (bOf bs) (fuelZ r.fnd) 0).map (·.1)) = true := by
  rw [e1]
  refine inst_well H.well hv (fun h ho => ?_)
  have ht := H.top
  unfold sevOf at ht
  rw [ho] at ht
  have hh := (holeOf_inv ho).1
  have hs : isSev (hkind r.holes h) = false := by
   cases c : isSev (hkind r.holes h) with
   | false => rfl
   | true => simp [c] at ht
  exact ((hV h).2 hh hs).1
 have h0 := well_zero hw
 refine ⟨hb, hv, hw, atZ_made hr hV hw h0.1 ?_⟩
 rw [h0.2, ← e1]
 unfold piece
 rw [List.drop_zero, Nat.sub_zero, List.take_length]
theorem made_again {r : RuleM} {I : List Prt} {τ : MSt} (hw : wellB I = true) (h : atZ r I ((0 : Nat) : Int) = some τ) : (mPart r.fnd I r.holes (bOf (bindsOf r.holes τ)) (fuelZ r.fnd) 0).map (·.1) = I := by
 have h1 := (found_inst h).2.2
 have h0 := well_zero hw
 rw [h1, show (((0 : Nat) : Int)).toNat = 0 by rfl, h0.2]
 unfold piece
 rw [List.drop_zero, Nat.sub_zero, List.take_length]
end Go.Proofs.YtlkheofphafofaaGreatDoor
namespace Go.Proofs.YtlkheofphafofaaGreatDoor
set_option linter.all false
open Go.RowKit

section
variable {P : Program} {α : Type}
end
end Go.Proofs.YtlkheofphafofaaGreatDoor
namespace Go.Proofs.YtlkheofphafofaaGreatDoor
set_option linter.all false
open Go.RowKit

abbrev MchX := Mch × Value
def mchV (x : MchX) : List Value := [.int .i64 (x.1.1 : Int), .int .i64 (x.1.2.1 : Int), x.2]
def mchsV (xs : List MchX) : List Value := xs.flatMap mchV
structure KpF (B : Nat) (bx : Option Nat) (W W' : World) : Prop where
 os : W'.os = W.os
 tape : W'.tape = W.tape
 output : W'.output = W.output
 size : W.heap.size ≤ W'.heap.size
 low : ∀ k, k < B → k < W.heap.size → W'.heap[k]? = W.heap[k]?
 cells : ∀ k cs T fr, W.heap[k]? = some (.cells cs T fr) → T ≠ 95 → T ≠ 58 → some k ≠ bx → W'.heap[k]? = W.heap[k]?
theorem KpF.of_below {B : Nat} {bx : Option Nat} {W W' : World} (h : Below W.heap.size W W') : KpF B bx W W' :=
 ⟨h.os, h.tape, h.output, h.size, fun k _ hk => h.block k hk, fun k cs T fr hc _ _ _ => h.block k (keeps_lt hc)⟩
theorem KpF.trans {B : Nat} {bx : Option Nat} {a b c : World} (h : KpF B bx a b) (k : KpF B bx b c) : KpF B bx a c :=
 ⟨k.os.trans h.os, k.tape.trans h.tape, k.output.trans h.output, Nat.le_trans h.size k.size, fun i h1 h2 => (k.low i h1 (Nat.lt_of_lt_of_le h2 h.size)).trans (h.low i h1 h2),
  fun i cs T fr hc h1 h2 h3 => by
   have e := h.cells i cs T fr hc h1 h2 h3
   exact (k.cells i cs T fr (e.trans hc) h1 h2 h3).trans e⟩
theorem KpF.put {B : Nat} {bx : Option Nat} {W : World} {D : Nat} {r : Loop} (o : Obj) (hB : B ≤ D) (h : W.heap[D]? = some (.loop r)) : KpF B bx W (W.putObj D o) :=
 ⟨rfl, rfl, rfl, by simp [World.putObj], fun k h1 _ => World.putObj_heap_other (by omega), fun k cs T fr hc _ _ _ => World.putObj_heap_other (fun e => by subst e; rw [h] at hc; cases hc)⟩
theorem KpF.below {bx : Option Nat} {w W W' : World} (hb : Below w.heap.size w W) (h : KpF w.heap.size bx W W') : Below w.heap.size w W' :=
 ⟨h.os.trans hb.os, h.tape.trans hb.tape, h.output.trans hb.output, Nat.le_trans hb.size h.size, fun k hk => (h.low k hk (Nat.lt_of_lt_of_le hk hb.size)).trans (hb.block k hk)⟩
theorem KpF.row {B : Nat} {bx : Option Nat} {W W' : World} (h : KpF B bx W W') {C : Nat} {e : TypeId} {size n : Nat} {v : Value} {xs : List Value} (hr : W.ownsRow C e size v n xs) (h1 : e ≠ 95) (h2 : e ≠ 58) (hx : ∀ k, bx = some k → k < C) : W'.ownsRow C e size v n xs := by
 obtain ⟨g1, g2⟩ := hr
 refine ⟨g1, ?_⟩
 rcases g2 with g2 | ⟨k, cap, cur, hv, hk, hh, r⟩
 ·exact Or.inl g2
 ·exact Or.inr ⟨k, cap, cur, hv, hk, (h.cells k _ _ _ hh h1 h2 (fun e => by have := hx k e.symm; omega)).trans hh, r⟩
structure EchW (w : World) (m : Nat) (bx : Option Nat) (cl cr : Nat) (vl vr : Value) (W : World) : Prop where
 below : Below w.heap.size w W
 L : W.heap[cl]? = some (.cells #[vl] 23 (0, 0))
 R : W.heap[cr]? = some (.cells #[vr] 34 (0, 0))
 lt : m ≤ cl ∧ m ≤ cr ∧ w.heap.size ≤ m
 bx : ∀ k, bx = some k → k < m
theorem EchW.ext {w : World} {m : Nat} {bx : Option Nat} {cl cr : Nat} {vl vr : Value} {W W' : World} (h : EchW w m bx cl cr vl vr W) (hb : Below W.heap.size W W') : EchW w m bx cl cr vl vr W' :=
 ⟨bthen h.below hb, keeps hb h.L, keeps hb h.R, h.lt, h.bx⟩
theorem EchW.kp {w : World} {m : Nat} {bx : Option Nat} {cl cr : Nat} {vl vr : Value} {W W' : World} (h : EchW w m bx cl cr vl vr W) (k : KpF w.heap.size bx W W') : EchW w m bx cl cr vl vr W' :=
 ⟨k.below h.below, (k.cells _ _ _ _ h.L (by decide) (by decide) (fun e => by have := h.bx _ e.symm; have := h.lt; omega)).trans h.L, (k.cells _ _ _ _ h.R (by decide) (by decide) (fun e => by have := h.bx _ e.symm; have := h.lt; omega)).trans h.R, h.lt, h.bx⟩
theorem EchW.cells {w : World} {m : Nat} {bx : Option Nat} {cl cr : Nat} {vl vr : Value} {W : World} (h : EchW w m bx cl cr vl vr W) : W.cell? ⟨cl, 0, none⟩ = some vl ∧ W.cell? ⟨cr, 0, none⟩ = some vr := by
 simp only [World.cell?, h.L, h.R]
 exact ⟨rfl, rfl⟩
theorem EchW.part {w : World} {m : Nat} {bx : Option Nat} {cl cr : Nat} {vl vr : Value} {W W' : World} (h : EchW w m bx cl cr vl vr W) (k : KpF w.heap.size bx W W') {g : Nat} {p : Prt} (hg : m ≤ g) (hp : PK W g p) : PK W' g p := by
 unfold PK at *
 exact (k.cells _ _ _ _ hp (by decide) (by decide) (fun e => by have := h.bx _ e.symm; omega)).trans hp
theorem EchW.rule {w : World} {m : Nat} {bx : Option Nat} {cl cr : Nat} {vl vr : Value} {W W' : World} (h : EchW w m bx cl cr vl vr W) (k : KpF w.heap.size bx W W') {g : Nat} {nm : ByteArray} {goal : Nat} {vh vf vb : Value} (hg : m ≤ g) (hp : RK W g nm goal vh vf vb) : RK W' g nm goal vh vf vb := by
 unfold RK at *
 exact (k.cells _ _ _ _ hp (by decide) (by decide) (fun e => by have := h.bx _ e.symm; omega)).trans hp
end Go.Proofs.YtlkheofphafofaaGreatDoor
namespace Go.Proofs.YtlkheofphafofaaGreatDoor
set_option linter.all false
attribute [local irreducible] Calls
attribute [local irreducible] wpStill
open Go.RowKit

structure MchsIn (w : World) (v : Value) (xs : List MchX) : Prop where
 R : Row w v xs.length 3 (mchsV xs)
 E : ∀ x ∈ xs, BindRow w x.2 x.1.2.2
theorem MchsIn.below {w w' : World} {v : Value} {xs : List MchX} (h : MchsIn w v xs) (hb : Below w.heap.size w w') : MchsIn w' v xs := ⟨Row.below h.R hb, fun x hx => (h.E x hx).below hb⟩
theorem MchsIn.shape {w : World} {v : Value} {xs : List MchX} (h : MchsIn w v xs) : ∃ a cap, v = .slice a xs.length cap ∧ xs.length ≤ cap := Row.shape h.R
theorem MchsIn.at {w w' : World} {a : Option Addr} {n cap : Nat} {xs : List MchX} (h : MchsIn w (.slice a n cap) xs) (hb : Below w.heap.size w w') (hp : 0 < xs.length) :
  ∃ b off, a = some ⟨b, off, none⟩ ∧ xs.length ≤ cap ∧ b < w.heap.size ∧ ∀ i (hi : i < xs.length),
   w'.cell? ⟨b, off + i * 3, none⟩ = some (.int .i64 (xs[i].1.1 : Int)) ∧ w'.cell? ⟨b, off + i * 3 + 1, none⟩ = some (.int .i64 (xs[i].1.2.1 : Int)) ∧ w'.cell? ⟨b, off + i * 3 + 2, none⟩ = some xs[i].2 := by
 obtain ⟨b, off, cap', hv, hc, hlt, hcell⟩ := Row.cells h.R hb hp
 simp only [Value.slice.injEq] at hv
 obtain ⟨rfl, rfl, rfl⟩ := hv
 have key : ∀ i (hi : i < xs.length) (j : Nat), j < 3 → w'.cell? ⟨b, off + i * 3 + j, none⟩ = (mchV xs[i])[j]? := fun i hi j hj => by
  rw [Nat.add_assoc, hcell _ (by omega)]
  exact flat_at (g := mchV) (sz := 3) (fun _ => rfl) xs i j hi hj
 exact ⟨b, off, rfl, hc, hlt, fun i hi => ⟨key i hi 0 (by omega), key i hi 1 (by omega), key i hi 2 (by omega)⟩⟩
end Go.Proofs.YtlkheofphafofaaGreatDoor
namespace Go.Proofs.YtlkheofphafofaaGreatDoor
set_option linter.all false
open Go.RowKit

structure HeldM (w : World) : Prop where
 T : Tabs w
 M : MaxC w
theorem HeldM.below {w w' : World} (h : HeldM w) (hb : Below w.heap.size w w') : HeldM w' := ⟨h.T.below hb, h.M.below hb⟩
@[irreducible] def AnswersM (w : World) (e : Ending) (w' : World) : Prop := e = .returned (.bool true) ∧ Below w.heap.size w w'
theorem AnswersM.mk {w w' : World} (h : Below w.heap.size w w') : AnswersM w (.returned (.bool true)) w' := by unfold AnswersM; exact ⟨rfl, h⟩
theorem AnswersM.out {w w' : World} {e : Ending} (h : AnswersM w e w') : e = .returned (.bool true) ∧ Below w.heap.size w w' := by unfold AnswersM at h; exact h
theorem lit_rule (w : World) (x : RuleX) (h : RuleIn w x.1 x.2.1 x.2.2.1 x.2.2.2) : RulesIn (w.alloc (.cells (ruleV x).toArray 25)) (.slice (some ⟨w.heap.size, 0, none⟩) 1 1) [x] := by
 have h1 : (w.alloc (.cells (ruleV x).toArray 25)).ownsRow 0 25 5 (.slice (some ⟨w.heap.size, 0, none⟩) 1 1) 1 (ruleV x) := by
  refine ⟨rfl, Or.inr ⟨w.heap.size, 1, (ruleV x).toArray, rfl, Nat.zero_le _, heap_alloc_new _ _, Nat.le_refl _, by unfold maxLen; omega, rfl, by simp [ruleV]⟩⟩
 refine ⟨?_, fun y hy => ?_⟩
 ·have := Row.of_owns h1
  simpa using this
 ·obtain rfl : y = x := by simpa using hy
  exact h.below ((Below.refl _ _).alloc (Nat.le_refl _) _)
end Go.Proofs.YtlkheofphafofaaGreatDoor
namespace Go.Proofs.YtlkheofphafofaaGreatDoor
set_option linter.all false
attribute [local irreducible] Calls
open Go.RowKit

@[irreducible] def madePost (r : RuleM) (bs : List Bnd) (w0 : World) (e : Ending) (w' : World) : Prop :=
 ∃ x : Int, e = .returned (.int .i64 x) ∧ (x ≤ 3000 → x = ((r.fnd.length + sumH r.fnd r.holes (bOf bs) r.fnd.length : Nat) : Int)) ∧ Below w0.heap.size w0 w'
def mdRel (r : RuleM) (bs : List Bnd) (W1 : World) (nv pv : Value) (wr : World) : Prop := ∃ p N : Nat, pv = .int .i64 (p : Int) ∧ nv = .int .i64 (N : Int) ∧ p ≤ r.fnd.length ∧ N = r.fnd.length + sumH r.fnd r.holes (bOf bs) p ∧ N ≤ 4000000 ∧ Below W1.heap.size W1 wr
set_option maxRecDepth 100000 in
set_option maxHeartbeats 8000000 in
theorem law17_made (r : RuleM) (hs : SmallR r) (vh vf vb : Value) (l : List Prt) (hl : l.length ≤ 1048576) (bs : List Bnd) (hn : bs.length = r.holes.length) (hbi : BindsIn bs l) (vbs : Value) (w : World) (hr : RuleIn w r vh vf vb) (hrb : BindRow w vbs bs) :
  Calls Tryz.prog 26 #[ruleAgg r vh vf vb, vbs] w (madePost r bs w) := by
 have HQ : RowKit.Hid (∀ x w', (x ≤ 3000 → x = ((r.fnd.length + sumH r.fnd r.holes (bOf bs) r.fnd.length : Nat) : Int)) → Below w.heap.size w w' → madePost r bs w (.returned (.int .i64 x)) w') := Lib.hid fun x w' h1 h2 => by unfold madePost; exact ⟨x, rfl, h1, h2⟩
 generalize madePost r bs w = Q at *
 obtain ⟨ah, ch, rfl, hch⟩ := Row.shape hr.H
 obtain ⟨af, cf, rfl, hcf⟩ := hr.F.slice
 obtain ⟨ab, cb, rfl, hcb⟩ := hr.B.slice
 obtain ⟨aq, cq, rfl, hcq⟩ := Row.shape hrb
 have HIN := Lib.hid hr
 have HRB := Lib.hid hrb
 have HBI := Lib.hid hbi
 have hfl := hs.f.1
 have hhl := hs.h.1
 have HR1 : RowKit.Hid (RK (w.alloc (.cells #[.string r.nm, .int .u8 (r.goal : Int), .slice ah r.holes.length ch, .slice af r.fnd.length cf, .slice ab r.by'.length cb] 25)) w.heap.size r.nm r.goal (.slice ah r.holes.length ch) (.slice af r.fnd.length cf) (.slice ab r.by'.length cb)) := Lib.hid (heap_alloc_new _ _)
 have HB1 : RowKit.Hid (Below w.heap.size w (w.alloc (.cells #[.string r.nm, .int .u8 (r.goal : Int), .slice ah r.holes.length ch, .slice af r.fnd.length cf, .slice ab r.by'.length cb] 25))) := Lib.hid ((Below.refl _ _).alloc (Nat.le_refl _) _)
 have CH := Lib.hid (fun W (hb : Below w.heap.size w W) p (hp : p < r.fnd.length) => ref_Hole r.fnd r.holes hfl hhl p hp _ _ W (hr.F.below hb) (hr.H.below hb))
 have HNH := Lib.hid hn
 clear hr hs hrb hbi hn
 unfold ruleAgg
 go_enter Tryz.func26, Tryz.ntmps26
 go_upto_region 1 with (fail)
 generalize w.alloc (.cells #[.string r.nm, .int .u8 (r.goal : Int), .slice ah r.holes.length ch, .slice af r.fnd.length cf, .slice ab r.by'.length cb] 25) = W1 at *
 obtain ⟨e0, e1, e2, e3, e4⟩ := HR1.out.cells
 go_wp2_with fail
 clear e0 e1 e2 e3 e4
 go_loopw [5, 6] (fun nv pv wr => mdRel r bs W1 nv pv wr) (fun _ pv _ => r.fnd.length - (intOf pv).toNat)
 case atStart => exact ⟨0, r.fnd.length, rfl, rfl, Nat.zero_le _, rfl, by omega, Below.refl _ _⟩
 case round =>
  obtain ⟨p, N, rfl, rfl, hp, hN, hN2, hb⟩ := hrel
  have HB := Lib.hid hb
  have HN := Lib.hid hN
  obtain ⟨e0, e1, e2, e3, e4⟩ := (HR1.out.below hb).cells
  clear hb hN
  by_cases hlt : p < r.fnd.length
  ·have hpl : (p : Int) < r.fnd.length := by omega
   by_cases h3 : N ≤ 3000
   ·have h3i : (N : Int) ≤ 3000 := by omega
    have C1 := Lib.hid (CH.out wr (bthen HB1.out HB.out) p hlt)
    have hwp : IntKind.i64.wrap ((p : Int) + 1) = (p : Int) + 1 := by rw [IntKind.wrap_i64]; omega
    have HS : RowKit.Hid (sumH r.fnd r.holes (bOf bs) (p + 1) = sumH r.fnd r.holes (bOf bs) p + lenAt r.fnd r.holes (bOf bs) p) := Lib.hid rfl
    have HMS : RowKit.Hid (r.fnd.length - (p + 1) < r.fnd.length - p) := Lib.hid (by omega)
    go_wp2_with fail
    refine C1.out.mono ?_
    rintro e w2 ⟨rfl, hb2⟩
    have HB2 := Lib.hid (bthen HB.out hb2)
    clear hb2 C1 e0 e1 e2 e3 e4
    cases ho : holeOf r.fnd r.holes p with
    | none =>
     simp only [holeI]
     have HX : RowKit.Hid (mdRel r bs W1 (.int .i64 (N : Int)) (.int .i64 ((p : Int) + 1)) w2) := Lib.hid ⟨p + 1, N, by push_cast; rfl, rfl, hlt, by
      have h1 : lenAt r.fnd r.holes (bOf bs) p = 0 := by unfold lenAt; rw [ho]
      rw [HS.out, h1, HN.out]; omega, hN2, HB2.out⟩
     clear ho
     go_wp2_with fail
     exact ⟨HX.out, by have := HMS.out; simp only [intOf]; omega⟩
    | some h =>
     simp only [holeI]
     have hh : h < bs.length := by rw [HNH.out]; exact (holeOf_inv ho).1
     obtain ⟨x1, x2, x3⟩ := HBI.out _ (List.getElem_mem hh)
     have hlen : lenAt r.fnd r.holes (bOf bs) p = (bs[h]).2.2.toNat - (bs[h]).2.1.toNat := by unfold lenAt; rw [ho]; simp only []; rw [bOf_at hh]
     obtain ⟨qb, qo, rfl, _, _, _, hcell⟩ := HRB.out.at (bthen HB1.out HB2.out) (show 0 < bs.length by omega)
     obtain ⟨d0, d1, d2⟩ := hcell h hh
     have hh0 : (0 : Int) ≤ (h : Int) := by omega
     have hn0 : ¬ (h : Int) < 0 := by omega
     have hhl' : (h : Int) < bs.length := by omega
     have hhq : (h : Int) < (cq : Int) := by omega
     obtain ⟨f, hf⟩ : ∃ f : Nat, (bs[h]).2.1 = (f : Int) := ⟨(bs[h]).2.1.toNat, by omega⟩
     obtain ⟨t, ht⟩ : ∃ t : Nat, (bs[h]).2.2 = (t : Int) := ⟨(bs[h]).2.2.toNat, by omega⟩
     rw [hf] at d1 x1 x2 hlen
     rw [ht] at d2 x2 x3 hlen
     simp only [Int.toNat_natCast] at hlen
     have hw1 : IntKind.i64.wrap ((t : Int) - (f : Int)) = (t : Int) - (f : Int) := by rw [IntKind.wrap_i64]; omega
     have hw2 : IntKind.i64.wrap ((N : Int) + ((t : Int) - (f : Int))) = ((N + (t - f) : Nat) : Int) := by rw [IntKind.wrap_i64]; omega
     have HX : RowKit.Hid (∀ W, Below W1.heap.size W1 W → mdRel r bs W1 (.int .i64 ((N + (t - f) : Nat) : Int)) (.int .i64 ((p : Int) + 1)) W) := Lib.hid fun W hb => ⟨p + 1, N + (t - f), by push_cast; rfl, rfl, hlt, by rw [HS.out, hlen, HN.out]; omega, by omega, hb⟩
     have HXN := Lib.hid (fun nq => HX.out (w2.drewN nq) (drewB HB2.out nq))
     clear hcell hf ht x1 x2 x3 hlen ho HX
     generalize hNN : N + (t - f) = NN at *
     clear hNN
     go_wp2_with fail
     go_quiet (fail)
     go_wp2_with fail
     refine ⟨?_, (by have := HMS.out; simp [intOf]; try omega)⟩
     first
      | exact HXN.out _
      | (repeat apply Exists.intro
         refine ⟨?_, rfl⟩
         exact HXN.out _)
   ·have h3i : ¬ (N : Int) ≤ 3000 := by omega
    have HX := Lib.hid (HQ.out (N : Int) wr (fun h => absurd h (by omega)) (bthen HB1.out HB.out))
    go_wp2_with fail
    exact HX.out
  ·obtain rfl : p = r.fnd.length := by omega
   have HX := Lib.hid (HQ.out (N : Int) wr (fun _ => by rw [HN.out]) (bthen HB1.out HB.out))
   have hpl : ¬ (r.fnd.length : Int) < r.fnd.length := by omega
   go_wp2_with fail
   exact HX.out
end Go.Proofs.YtlkheofphafofaaGreatDoor
namespace Go.Proofs.YtlkheofphafofaaGreatDoor
set_option linter.all false
attribute [local irreducible] Calls
open Go.RowKit

def bndO (r : RuleM) (o : Option MSt) : List Bnd := match o with
 | some τ => bindsOf r.holes τ
 | none => []
def FlatP (r : RuleM) (o : Option MSt) (w0 : World) (e : Ending) (w' : World) : Prop :=
 ∃ a c, e = .returned (.tuple #[.slice a (bndO r o).length c, .bool o.isSome]) ∧ (bndO r o).length ≤ c ∧ BindRow w' (.slice a (bndO r o).length c) (bndO r o) ∧ Below w0.heap.size w0 w'
theorem atPost.flat {r : RuleM} {o : Option MSt} {w0 w' : World} {e : Ending} (h : atPost r o w0 e w') (hl : ∀ τ, o = some τ → (bindsOf r.holes τ).length = r.holes.length) : FlatP r o w0 e w' := by
 unfold atPost at h
 obtain ⟨hb, h⟩ := h
 cases o with
 | none =>
  simp only [] at h
  subst h
  exact ⟨none, 0, rfl, Nat.le_refl _, ⟨rfl, none, 0, rfl, Nat.le_refl _, fun _ => rfl, fun h => absurd h (by simp [bndO])⟩, hb⟩
 | some τ =>
  simp only [] at h
  obtain ⟨vb, rfl, ho⟩ := h
  have e1 := hl τ rfl
  have h1 : BindRow w' vb (bindsOf r.holes τ) := by unfold BindRow; rw [e1]; exact Row.of_owns ho
  obtain ⟨a, c, rfl, hc⟩ := Row.shape h1
  exact ⟨a, c, rfl, hc, h1, hb⟩
theorem at_flat (r : RuleM) (hs : SmallR r) (vh vf vb : Value) (l : List Prt) (hl : SmallL l) (vl : Value) (i : Int) (w : World) (hT : Tabs w) (hM : MaxC w) (hr : RuleIn w r vh vf vb) (hlr : PartRow w vl l) :
  Calls Tryz.prog 11 #[ruleAgg r vh vf vb, vl, .int .i64 i] w (FlatP r (atZ r l i) w) :=
 (match_At r hs vh vf vb l hl vl i w hT hM hr hlr).mono fun _ _ h => h.flat (fun τ e => (binds_small e hl.1).1)
end Go.Proofs.YtlkheofphafofaaGreatDoor
