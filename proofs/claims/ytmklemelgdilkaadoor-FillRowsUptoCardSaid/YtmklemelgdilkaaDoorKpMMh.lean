/- A method's own memory: below a mark nothing turns but one block (the struct's); rows of the method's own lie above the mark. -/
import Derived.Test.YtmklemelgdilkaaDoorAppEqMh
import Derived.Test.YtmklemelgdilkaaDoorGuardPMh
import Derived.Test.YtmklemelgdilkaaDoorTermQMh
import Derived.Laws.CopyOwn
import Derived.Test.YtmklemelgdilkaaDoorCoreMh
import Derived.StillTailTactics
import Derived.Deep.RegionHeld3
namespace Go.Proofs.YtmklemelgdilkaaDoor
set_option linter.all false
open Go Go.RowKit

structure KpM (B g : Nat) (W W' : World) : Prop where
 os : W'.os = W.os
 tape : W'.tape = W.tape
 output : W'.output = W.output
 size : W.heap.size ≤ W'.heap.size
 low : ∀ k, k < B → k ≠ g → W'.heap[k]? = W.heap[k]?
theorem KpM.refl (B g : Nat) (W : World) : KpM B g W W := ⟨rfl, rfl, rfl, Nat.le_refl _, fun _ _ _ => rfl⟩
theorem KpM.trans {B g : Nat} {a b c : World} (h : KpM B g a b) (k : KpM B g b c) : KpM B g a c :=
 ⟨k.os.trans h.os, k.tape.trans h.tape, k.output.trans h.output, Nat.le_trans h.size k.size, fun i h1 h2 => (k.low i h1 h2).trans (h.low i h1 h2)⟩
theorem KpM.of_below {B g : Nat} {W W' : World} (hB : B ≤ W.heap.size) (h : Below W.heap.size W W') : KpM B g W W' := ⟨h.os, h.tape, h.output, h.size, fun k hk _ => h.block k (by omega)⟩
theorem KpM.drewN {B g : Nat} {a W : World} (h : KpM B g a W) (n : Nat) : KpM B g a (W.drewN n) := ⟨h.os, h.tape, h.output, h.size, h.low⟩
theorem KpM.drew {B g : Nat} {a W : World} (h : KpM B g a W) : KpM B g a W.drew := ⟨h.os, h.tape, h.output, h.size, h.low⟩
theorem KpM.alloc {B g : Nat} {a W : World} (h : KpM B g a W) (hB : B ≤ W.heap.size) (o : Obj) : KpM B g a (W.alloc o) := h.trans (KpM.of_below hB ((Below.refl _ _).alloc (Nat.le_refl _) o))
theorem KpM.setG {B g : Nat} {a W : World} (h : KpM B g a W) (j : Nat) (v : Value) : KpM B g a (W.setCell ⟨g, j, none⟩ v) :=
 ⟨h.os, h.tape, h.output, by have := h.size; simpa using this, fun k h1 h2 => by rw [heap_setCell_other _ _ _ _ h2]; exact h.low k h1 h2⟩
theorem KpM.setO {B g : Nat} {a W : World} (h : KpM B g a W) {b : Nat} (hb : B ≤ b) (j : Nat) (v : Value) : KpM B g a (W.setCell ⟨b, j, none⟩ v) :=
 ⟨h.os, h.tape, h.output, by have := h.size; simpa using this, fun k h1 h2 => by rw [heap_setCell_other _ _ _ _ (show k ≠ b by omega)]; exact h.low k h1 h2⟩
theorem KpM.grown {B g : Nat} {a W W' : World} (h : KpM B g a W) {e : TypeId} {size n : Nat} {v : Value} {xs : List Value} (ho : W.ownsRow B e size v n xs) (hB : B ≤ W.heap.size) (hg : W.grownBy W' v.ownBlock) : KpM B g a W' :=
 ⟨hg.os.trans h.os, hg.tape.trans h.tape, hg.output.trans h.output, Nat.le_trans h.size hg.size, fun k h1 h2 => (hg.block k (by omega) (fun e => by have := (ho.lt k e.symm).1; omega)).trans (h.low k h1 h2)⟩
theorem KpM.cell {B g : Nat} {W W' : World} (h : KpM B g W W') {b o : Nat} (hb : b < B) (hg : b ≠ g) : W'.cell? ⟨b, o, none⟩ = W.cell? ⟨b, o, none⟩ := by
 simp only [World.cell?, h.low b hb hg]
theorem KpM.row {B g : Nat} {W W' : World} (h : KpM B g W W') (hB : B ≤ W.heap.size) {v : Value} {n sz : Nat} {cs : List Value} (hr : Row W v n sz cs) (hv : ∀ b, v.ownBlock = some b → b < B ∧ b ≠ g) : Row W' v n sz cs := by
 obtain ⟨h1, a, cap, e, hc, hz, h2⟩ := hr
 refine ⟨h1, a, cap, e, hc, hz, fun hn => ?_⟩
 obtain ⟨b, off, ha, hlt, hcell⟩ := h2 hn
 subst ha
 obtain ⟨k1, k2⟩ := hv b (by rw [e]; rfl)
 refine ⟨b, off, rfl, by have := h.size; omega, fun i hi => ?_⟩
 rw [← hcell i hi]
 exact h.cell k1 k2
theorem KpM.below {B g : Nat} {w W W' : World} (h : KpM B g W W') (hw : Below w.heap.size w W) (hB : w.heap.size ≤ B) (hg : w.heap.size ≤ g) : Below w.heap.size w W' :=
 ⟨h.os.trans hw.os, h.tape.trans hw.tape, h.output.trans hw.output, Nat.le_trans hw.size h.size, fun k hk => (h.low k (by omega) (by omega)).trans (hw.block k hk)⟩
end Go.Proofs.YtmklemelgdilkaaDoor
namespace Go.Proofs.YtmklemelgdilkaaDoor
set_option linter.all false
open Go.RowKit
end Go.Proofs.YtmklemelgdilkaaDoor
namespace Go.Proofs.YtmklemelgdilkaaDoor
set_option linter.all false

end Go.Proofs.YtmklemelgdilkaaDoor
namespace Go.Proofs.YtmklemelgdilkaaDoor
set_option linter.all false
open Go Go.RowKit

section
variable {P : Program}
end
end Go.Proofs.YtmklemelgdilkaaDoor
namespace Go.Proofs.YtmklemelgdilkaaDoor
set_option linter.all false
open Go.RowKit

theorem elem_part : Tryd.prog.underlying 23 = some (.slice (Tryd.prog.elem 23)) := by kernel_rfl
theorem size_part_run (w : World) : (sizeOf (Tryd.prog.elem 23)).run Tryd.prog w = .ok 3 w := by
 have h : (Tryd.prog.info? (Tryd.prog.elem 23)).map (·.size) = some 3 := by kernel_rfl
 cases hq : Tryd.prog.info? (Tryd.prog.elem 23) with
 | none => rw [hq] at h; cases h
 | some i =>
  rw [hq] at h
  simp only [Option.map_some, Option.some.injEq] at h
  simp [sizeOf, typeInfo, hq, h]
theorem slice_fromP (g off n c lo : Nat) (hlo : lo ≤ n) : ∃ p : Option Addr, (∀ w, (Instr.slice 23 (.slice (some ⟨g, off, none⟩) n c) (some (.int .i64 (lo : Int))) none none).run Tryd.prog w = .ok (.slice p (n - lo) (c - lo)) w) ∧ (lo < c → p = some ⟨g, off + lo * 3, none⟩) := by
 refine ⟨if c = lo then some ⟨g, off, none⟩ else some ⟨g, off + lo * 3, none⟩, fun w => ?_, fun h => if_neg (by omega)⟩
 rw [run_slice_l w _ _ _ _ elem_part .i64 (lo : Int) (by omega) (by omega), size_part_run]
 simp only [Result.andThen, sliced, Int.toNat_natCast]
 by_cases h : c = lo
 ·rw [if_pos h, if_pos h]
 ·rw [if_neg h, if_neg h]; simp [Addr.add]
end Go.Proofs.YtmklemelgdilkaaDoor
namespace Go.Proofs.YtmklemelgdilkaaDoor
set_option linter.all false
attribute [local irreducible] wpStill
open Go.RowKit

def sndN : Nat → Code → Code
 | 0, c => c
 | n + 1, .seq _ b => sndN n b
 | _, c => c
def fstC : Code → Code
 | .seq a _ => a
 | c => c
theorem Tinfo_part : (Tryd.prog.info? 38).map (fun i => (i.zero, i.size, i.bytes)) = some (some (.agg #[.int .u8 0, .int .i64 0, .string ByteArray.empty]), 3, 32) := by kernel_rfl
theorem partsV_one (l : List Prt) : ∀ u ∈ partsV l, u.oneCell' = true := by
 intro u hu
 unfold partsV at hu
 rw [List.mem_flatMap] at hu
 obtain ⟨p, _, hp⟩ := hu
 unfold partV at hp
 simp at hp
 rcases hp with rfl | rfl | rfl <;> rfl
theorem PartRow.piece {w : World} {b off n cap : Nat} {l : List Prt} (h : PartRow w (.slice (some ⟨b, off, Option.none⟩) n cap) l) (i e : Nat) (hi : i ≤ e) (he : e ≤ l.length) (j : Nat) (v : Value) (hv : (partsV ((l.drop i).take (e - i)))[j]? = some v) : w.cell? (Addr.add ⟨b, off + i * 3, Option.none⟩ j) = some v := by
 obtain ⟨h1, a', cap', hv', hc, _, h2⟩ := h
 simp only [Value.slice.injEq] at hv'
 obtain ⟨rfl, rfl, rfl⟩ := hv'
 have hj := (List.getElem?_eq_some_iff.1 hv).1
 rw [partsV_length, List.length_take, List.length_drop] at hj
 obtain ⟨b', off', ha, _, hcell⟩ := h2 (by omega)
 simp only [Option.some.injEq, Addr.mk.injEq, and_true] at ha
 obtain ⟨rfl, rfl⟩ := ha
 have e0 : ∀ o j, (⟨b, o, Option.none⟩ : Addr).add j = ⟨b, o + j, Option.none⟩ := by intro o j; simp [Addr.add]
 have e1 : (Addr.add ⟨b, off + i * 3, Option.none⟩ j : Addr) = ⟨b, off + (i * 3 + j), Option.none⟩ := by rw [e0, Nat.add_assoc]
 rw [e1, hcell _ (by omega), ← hv]
 have hsp : l = l.take i ++ ((l.drop i).take (e - i) ++ (l.drop i).drop (e - i)) := by rw [List.take_append_drop, List.take_append_drop]
 have hA : (partsV (l.take i)).length = i * 3 := by rw [partsV_length, List.length_take, Nat.min_eq_left (by omega)]
 conv => lhs; rw [hsp, partsV_append, partsV_append]
 rw [List.getElem?_append_right (by omega), hA, show i * 3 + j - i * 3 = j by omega, List.getElem?_append_left (by rw [partsV_length, List.length_take, List.length_drop]; omega)]
end Go.Proofs.YtmklemelgdilkaaDoor
namespace Go.Proofs.YtmklemelgdilkaaDoor
set_option linter.all false
open Go

def noneYet (D : List Nat) (L : Array Bool) : Bool := D.all fun d => L.getD d true == false
section
variable {P : Program} {ops : Array Oper} {Q : Exit → Act → World → Prop} {md : Region.Mode} {S : World → Prop} {D : List Nat}
def wpAnyU (P : Program) (md : Region.Mode) (ops : Array Oper) (Q : Exit → Act → World → Prop) (D : List Nat) (S : World → Prop) : Nat → Array Bool → Act → World → Prop
 | 0, L, a, w => Region.ready md ops L = [] ∧ Q .normal a w
 | n + 1, L, a, w => (Region.ready md ops L = [] → Q .normal a w) ∧
   ∀ i ∈ Region.ready md ops L, wpOp P ops Q i (fun a' w' => (noneYet D (L.setIfInBounds i true) = true → S w') ∧ wpAnyU P md ops Q D S n (L.setIfInBounds i true) a' w') a w
theorem wpAnyU.any : ∀ (n : Nat) (L : Array Bool) (a : Act) (w : World), wpAnyU P md ops Q D S n L a w → wpAny P md ops Q n L a w
 | 0, _, _, _, h => h
 | n + 1, _, _, _, h => ⟨h.1, fun i hi => wpOp_mono (fun a' w' h' => wpAnyU.any n _ a' w' h'.2) (h.2 i hi)⟩
theorem unl_set {L : Array Bool} {i n : Nat} (h : n ≠ i) : (L.setIfInBounds i true).getD n true = L.getD n true := getD_set_ne true (Ne.symm h)
def waitN (md : Region.Mode) (ops : Array Oper) (i : Nat) (N : List Nat) : Bool := N.all fun n => n != i && (match ops[n]? with
 | some o => o.after.any fun e => Region.binds md e && (e.on == i || N.contains e.on)
 | none => false)
theorem waitN_ready {i : Nat} {N : List Nat} (h : waitN md ops i N = true) {L : Array Bool} (hi : L.getD i true = false) (hN : ∀ n ∈ N, L.getD n true = false) {j : Nat} (hj : j ∈ Region.ready md ops L) : j ∉ N := by
 intro hm
 unfold waitN at h
 rw [List.all_eq_true] at h
 have hn := h j hm
 obtain ⟨hjun, oj, hoj, hall⟩ := mem_ready.1 hj
 rw [hoj] at hn
 simp only [Bool.and_eq_true] at hn
 have ha := hn.2
 rw [Array.any_eq_true'] at ha
 obtain ⟨e, he, hb⟩ := ha
 simp only [Bool.and_eq_true, Bool.or_eq_true, beq_iff_eq] at hb
 have hl := hall e he hb.1
 rcases hb.2 with h2 | h2
 ·rw [h2] at hl
  rcases Nat.lt_or_ge i L.size with h' | h'
  ·simp [h'] at hi hl; rw [hi] at hl; cases hl
  ·simp [Array.getElem?_eq_none h'] at hi
 ·have h3 := hN e.on (by simpa using h2)
  rcases Nat.lt_or_ge e.on L.size with h' | h'
  ·simp [h'] at h3 hl; rw [h3] at hl; cases hl
  ·simp [Array.getElem?_eq_none h'] at h3
theorem none_set {N : List Nat} (hD : ∀ d ∈ D, d ∈ N) {L : Array Bool} {i j : Nat} (hN : ∀ n ∈ N, L.getD n true = false) (hi : i ∉ N) (hj : j ∉ N) : noneYet D ((L.setIfInBounds i true).setIfInBounds j true) = true := by
 unfold noneYet
 rw [List.all_eq_true]
 intro d hd
 have hdn := hD d hd
 rw [unl_set (fun (e : d = j) => hj (e ▸ hdn)), unl_set (fun (e : d = i) => hi (e ▸ hdn)), hN d hdn]
 rfl
theorem wpAnyU_first {i : Nat} {oi : Oper} {v : Value} {N : List Nat} (hi : ops[i]? = some oi) (hsel : ∀ (j : Nat) (o : Oper) cs b, ops[j]? = some o → o.op ≠ .select cs b)
  (hQ : ∀ c a w, Q (.panic c) (a.put oi.dst v) w → Q (.panic c) a w) (hW : waitN md ops i N = true) (hD : ∀ d ∈ D, d ∈ N) (hiN : i ∉ N) :
  ∀ (fuel : Nat) (L : Array Bool) (a : Act) (w : World),
   (∀ j oj, ops[j]? = some oj → j ≠ i → L.getD j true = false → (∀ e ∈ oj.after, Region.binds md e = true → e.on ≠ i) → oi.apart ops oj = true) →
   i ∈ Region.ready md ops L → YieldsIf P ops S oi v a → (∀ n ∈ N, L.getD n true = false) → S w →
   wpAnyU P md ops Q D S fuel (L.setIfInBounds i true) (a.put oi.dst v) w → wpAnyU P md ops Q D S (fuel + 1) L a w := by
 intro fuel
 induction fuel with
 | zero =>
  intro L a w _ hr hy hN hS H
  refine ⟨fun h => (by rw [h] at hr; cases hr), fun j hj => ?_⟩
  by_cases hji : j = i
  ·subst hji; exact hy.wpOp hi hS ⟨fun _ => hS, H⟩
  ·have := ready_mono hj hji
   rw [H.1] at this
   cases this
 | succ fuel ih =>
  intro L a w hfree hr hy hN hS H
  refine ⟨fun h => (by rw [h] at hr; cases hr), fun j hj => ?_⟩
  by_cases hji : j = i
  ·subst hji; exact hy.wpOp hi hS ⟨fun _ => hS, H⟩
  ·have h1 := H.2 j (ready_mono hj hji)
   obtain ⟨hjun, oj, hoj, hall⟩ := mem_ready.1 hj
   have hiun := (mem_ready.1 hr).1
   have hjN := waitN_ready hW hiun hN hj
   have hnot : ∀ e ∈ oj.after, Region.binds md e = true → e.on ≠ i := fun e he hb heq => by
    have h1 := hall e he hb
    rw [heq] at h1
    rcases Nat.lt_or_ge i L.size with h' | h'
    ·simp [h'] at hiun h1; rw [hiun] at h1; cases h1
    ·simp [Array.getElem?_eq_none h'] at h1
   have h2 := wpOp_putIf hoj (hfree j oj hoj hji hjun hnot) (fun cs b => hsel i oi cs b hi) (fun cs b => hsel j oj cs b hoj) hQ hy h1
   have hfree' : ∀ k ok, ops[k]? = some ok → k ≠ i → (L.setIfInBounds j true).getD k true = false → (∀ e ∈ ok.after, Region.binds md e = true → e.on ≠ i) → oi.apart ops ok = true := fun k ok hk hki hun hno => by
    refine hfree k ok hk hki ?_ hno
    by_cases hjk : j = k
    ·subst hjk; exact hjun
    ·rw [getD_set_ne true hjk] at hun; exact hun
   refine wpOp_mono (fun a' w' h3 => ?_) h2
   have hS' : S w' := h3.2.1 (none_set hD hN hiN hjN)
   refine ⟨fun _ => hS', ih (L.setIfInBounds j true) a' w' hfree' (ready_mono hr (Ne.symm hji)) h3.1 (fun n hn => ?_) hS' ?_⟩
   ·rw [unl_set (fun (e : n = j) => hjN (e ▸ hn))]; exact hN n hn
   ·rw [Array.setIfInBounds_comm _ _ hji]
    exact h3.2.2
theorem wpAnyU_take {i : Nat} {oi : Oper} {v : Value} {fuel : Nat} {L : Array Bool} {a : Act} {w : World} (N : List Nat) (hi : ops[i]? = some oi)
  (hW : (waitN md ops i N && D.all (fun d => N.contains d) && noneYet N L) = true) (hs : Region.noSelect ops = true) (hf : Region.free md ops L i = true) (hr : (Region.ready md ops L).contains i = true)
  (hQ : ∀ c a w, Q (.panic c) (a.put oi.dst v) w → Q (.panic c) a w) (hy : YieldsIf P ops S oi v a) (hS : S w)
  (h : wpAnyU P md ops Q D S fuel (L.setIfInBounds i true) (a.put oi.dst v) w) : wpAnyU P md ops Q D S (fuel + 1) L a w := by
 simp only [Bool.and_eq_true] at hW
 obtain ⟨⟨h1, h2⟩, h3⟩ := hW
 refine wpAnyU_first (N := N) hi (Region.noSelect_spec hs) hQ h1 (fun d hd => ?_) (fun hm => ?_) fuel L a w (Region.free_spec hi hf) (by simpa using hr) hy (fun n hn => ?_) hS h
 ·rw [List.all_eq_true] at h2
  simpa using h2 d hd
 ·unfold waitN at h1
  rw [List.all_eq_true] at h1
  have := h1 i hm
  simp at this
 ·unfold noneYet at h3
  rw [List.all_eq_true] at h3
  simpa using h3 n hn
theorem none_skip {L : Array Bool} {i j : Nat} (hi : i ∉ D) (h : noneYet D (L.setIfInBounds j true) = true) (hji : j ≠ i) : noneYet D ((L.setIfInBounds i true).setIfInBounds j true) = true := by
 unfold noneYet at *
 rw [List.all_eq_true] at *
 intro d hd
 have h1 := h d hd
 rw [Array.setIfInBounds_comm _ _ (Ne.symm hji), unl_set (fun (e : d = i) => hi (e ▸ hd))]
 exact h1
theorem wpAnyU_firstF {i : Nat} {oi : Oper} {v : Value} (hi : ops[i]? = some oi) (hsel : ∀ (j : Nat) (o : Oper) cs b, ops[j]? = some o → o.op ≠ .select cs b)
  (hQ : ∀ c a w, Q (.panic c) (a.put oi.dst v) w → Q (.panic c) a w) (hiD : i ∉ D) :
  ∀ (fuel : Nat) (L : Array Bool) (a : Act) (w : World),
   (∀ j oj, ops[j]? = some oj → j ≠ i → L.getD j true = false → (∀ e ∈ oj.after, Region.binds md e = true → e.on ≠ i) → oi.apart ops oj = true) →
   i ∈ Region.ready md ops L → YieldsIf P ops (fun _ => True) oi v a → (noneYet D (L.setIfInBounds i true) = true → S w) →
   wpAnyU P md ops Q D S fuel (L.setIfInBounds i true) (a.put oi.dst v) w → wpAnyU P md ops Q D S (fuel + 1) L a w := by
 intro fuel
 induction fuel with
 | zero =>
  intro L a w _ hr hy hS H
  refine ⟨fun h => (by rw [h] at hr; cases hr), fun j hj => ?_⟩
  by_cases hji : j = i
  ·subst hji; exact hy.wpOp hi trivial ⟨hS, H⟩
  ·have := ready_mono hj hji
   rw [H.1] at this
   cases this
 | succ fuel ih =>
  intro L a w hfree hr hy hS H
  refine ⟨fun h => (by rw [h] at hr; cases hr), fun j hj => ?_⟩
  by_cases hji : j = i
  ·subst hji; exact hy.wpOp hi trivial ⟨hS, H⟩
  ·have h1 := H.2 j (ready_mono hj hji)
   obtain ⟨hjun, oj, hoj, hall⟩ := mem_ready.1 hj
   have hiun := (mem_ready.1 hr).1
   have hnot : ∀ e ∈ oj.after, Region.binds md e = true → e.on ≠ i := fun e he hb heq => by
    have h1 := hall e he hb
    rw [heq] at h1
    rcases Nat.lt_or_ge i L.size with h' | h'
    ·simp [h'] at hiun h1; rw [hiun] at h1; cases h1
    ·simp [Array.getElem?_eq_none h'] at h1
   have h2 := wpOp_putIf hoj (hfree j oj hoj hji hjun hnot) (fun cs b => hsel i oi cs b hi) (fun cs b => hsel j oj cs b hoj) hQ hy h1
   have hfree' : ∀ k ok, ops[k]? = some ok → k ≠ i → (L.setIfInBounds j true).getD k true = false → (∀ e ∈ ok.after, Region.binds md e = true → e.on ≠ i) → oi.apart ops ok = true := fun k ok hk hki hun hno => by
    refine hfree k ok hk hki ?_ hno
    by_cases hjk : j = k
    ·subst hjk; exact hjun
    ·rw [getD_set_ne true hjk] at hun; exact hun
   refine wpOp_mono (fun a' w' h3 => ?_) h2
   refine ⟨fun hn => h3.2.1 (none_skip hiD hn hji), ih (L.setIfInBounds j true) a' w' hfree' (ready_mono hr (Ne.symm hji)) h3.1 (fun hn => h3.2.1 (by rw [Array.setIfInBounds_comm _ _ (Ne.symm hji)]; exact hn)) ?_⟩
   rw [Array.setIfInBounds_comm _ _ hji]
   exact h3.2.2
theorem wpAnyU_takeF {i : Nat} {oi : Oper} {v : Value} {fuel : Nat} {L : Array Bool} {a : Act} {w : World} (hi : ops[i]? = some oi)
  (hs : (Region.noSelect ops && !D.contains i) = true) (hf : Region.free md ops L i = true) (hr : (Region.ready md ops L).contains i = true)
  (hQ : ∀ c a w, Q (.panic c) (a.put oi.dst v) w → Q (.panic c) a w) (hy : YieldsIf P ops (fun _ => True) oi v a) (hS : noneYet D (L.setIfInBounds i true) = true → S w)
  (h : wpAnyU P md ops Q D S fuel (L.setIfInBounds i true) (a.put oi.dst v) w) : wpAnyU P md ops Q D S (fuel + 1) L a w := by
 simp only [Bool.and_eq_true] at hs
 exact wpAnyU_firstF hi (Region.noSelect_spec hs.1) hQ (by have := hs.2; simp at this; exact this) fuel L a w (Region.free_spec hi hf) (by simpa using hr) hy hS h
def AllReadyU (P : Program) (md : Region.Mode) (ops : Array Oper) (Q : Exit → Act → World → Prop) (D : List Nat) (S : World → Prop) (fuel : Nat) (L : Array Bool) (a : Act) (w : World) (rs : List Nat) : Prop :=
 ∀ i ∈ rs, wpOp P ops Q i (fun a' w' => (noneYet D (L.setIfInBounds i true) = true → S w') ∧ wpAnyU P md ops Q D S fuel (L.setIfInBounds i true) a' w') a w
theorem AllReadyU.nil {fuel : Nat} {L : Array Bool} {a : Act} {w : World} : AllReadyU P md ops Q D S fuel L a w [] := fun _ h => by cases h
theorem AllReadyU.cons {fuel : Nat} {L : Array Bool} {a : Act} {w : World} {i : Nat} {o : Oper} {rs : List Nat} (ho : ops[i]? = some o)
  (h : ∀ K' : Act → World → Prop, Shut (∀ a w, (noneYet D (L.setIfInBounds i true) = true → S w) → wpAnyU P md ops Q D S fuel (L.setIfInBounds i true) a w → K' a w) → if Region.wanted o (yielded ops a.tmps) = true then Oper.wp P o a w K' Q else K' (a.put o.dst undef) w)
  (hs : AllReadyU P md ops Q D S fuel L a w rs) : AllReadyU P md ops Q D S fuel L a w (i :: rs) := fun j hj => by
 rcases List.mem_cons.1 hj with rfl | hj
 ·exact wpOp_step ho (fun K' hK => h K' (fun a w hS hW => hK a w ⟨hS, hW⟩))
 ·exact hs j hj
theorem wpAnyU_ready {rs : List Nat} {fuel : Nat} {L : Array Bool} {a : Act} {w : World} (hr : Region.ready md ops L = rs) (hne : rs ≠ [])
  (h : AllReadyU P md ops Q D S fuel L a w rs) : wpAnyU P md ops Q D S (fuel + 1) L a w := ⟨fun h0 => absurd (hr ▸ h0) hne, hr ▸ h⟩
theorem wpAnyU_done {L : Array Bool} {a : Act} {w : World} (hr : Region.ready md ops L = []) (h : Q .normal a w) : ∀ fuel, wpAnyU P md ops Q D S fuel L a w
 | 0 => ⟨hr, h⟩
 | _ + 1 => ⟨fun _ => h, by rw [hr]; simp⟩
theorem wp_region_until (D : List Nat) {id : Nat} {a : Act} {w : World} (hm : P.follows .mixedOrders = true) (h : wpAnyU P .any ops Q D S ops.size (Array.replicate ops.size false) a w.drew) : (Code.region id ops true).wp P Q a w :=
 wp_region_any hm (wpAnyU.any _ _ _ _ h)
end
end Go.Proofs.YtmklemelgdilkaaDoor
