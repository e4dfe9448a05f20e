/- Layer 17, the reference: At's memory: the numbers, a way that is laid out. -/
import Derived.Test.YtlkheofphafofaaGreatDoorRefPartCM
import Derived.Test.YtlkheofphafofaaGreatDoorSeekPM
import Derived.Test.YtlkheofphafofaaGreatDoorRangeMM
namespace Go.Proofs.YtlkheofphafofaaGreatDoor
set_option linter.all false
open Go.RowKit

theorem wy_part (E : WyE) (ok : WyOK E) (n : Nat) : WPartC E n := by
 induction n using Nat.strongRecOn with
 | ind n ih =>
  intro w σ p i hi hp hil hfu
  have hg := (endB_gt (well_rows ok.hf.well) hp).1
  obtain ⟨m, rfl⟩ : ∃ m, n = m + 1 := ⟨n - 1, by omega⟩
  rcases hole_parts E.k.f E.k.hs p with ⟨h, h1, h2, h3⟩ | ⟨h, h1, h2, h3⟩ | ⟨h1, h2, h3⟩
  ·exact wy_part_one E ok m w σ p i hi hp hil h h1
  ·exact wy_part_sev E ok m ih w σ p i hi hp hil hfu h h1
  ·exact wy_part_none E ok m ih w σ p i hi hp hil hfu h2
def LensB (w : World) (gl : Nat) (ns : List Nat) : Prop := w.heap[gl]? = some (.cells (natV ns).toArray 3 (0, 0))
theorem LensB.row {w : World} {gl : Nat} {ns : List Nat} (h : LensB w gl ns) (hn : ns.length ≤ 1048576) : RowInts w (.slice (some ⟨gl, 0, none⟩) ns.length ns.length) .i64 (natI ns) := by
 refine nat_row (B := 0) ⟨by rw [natV_length]; simp, Or.inr ⟨gl, ns.length, _, rfl, Nat.zero_le _, h, Nat.le_refl _, by unfold maxLen; omega, by simp [natV], by rw [List.take_of_length_le (by simp [natV])]⟩⟩
theorem LensB.cell {w : World} {gl : Nat} {ns : List Nat} (h : LensB w gl ns) {i : Nat} (hi : i < ns.length) : w.cell? ⟨gl, i, none⟩ = some (.int .i64 ((ns[i] : Nat) : Int)) ∧ w.frozen? ⟨gl, i, none⟩ = false := by
 unfold LensB at h
 refine ⟨?_, by simp [World.frozen?, h]⟩
 simp only [World.cell?, h, Option.bind_some]
 simp [natV, hi]
theorem LensB.set {w : World} {gl : Nat} {ns : List Nat} (h : LensB w gl ns) (i v : Nat) : LensB (w.setCell ⟨gl, i, none⟩ (.int .i64 (v : Int))) gl (ns.set i v) := by
 have h1 := heap_setCell_same w gl i _ _ (.int .i64 (v : Int)) h
 unfold LensB
 rw [h1]
 congr 2
 apply Array.ext'
 rw [Array.toList_setIfInBounds]
 unfold natV
 rw [List.map_set]
theorem LensB.below {w w' : World} {gl B : Nat} {ns : List Nat} (h : LensB w gl ns) (hb : Below B w w') (hB : gl < B) : LensB w' gl ns := by
 unfold LensB at *
 rw [hb.block gl hB]; exact h
def cellNat (w : World) (gl h : Nat) : Nat := match w.cell? ⟨gl, h, none⟩ with
 | some (.int _ z) => z.toNat
 | _ => 0
theorem LensB.nat {w : World} {gl : Nat} {ns : List Nat} (h : LensB w gl ns) {i : Nat} (hi : i < ns.length) : cellNat w gl i = ns[i] := by
 unfold cellNat
 rw [(h.cell hi).1]
 simp
structure RaW (g B1 : Nat) (r : RuleM) (vh vf vby vl vn vz : Value) (hb : List Hl) (vb : Value) (w1 w : World) : Prop where
 s : w.heap[g]? = some (.cells #[.string r.nm, .int .u8 (r.goal : Int), vh, vf, vby, vl, vn, vb, vz] 78 (0, 0))
 z : w.ownsRow B1 4 1 vz r.holes.length (boundV (startS r.holes))
 b : w.ownsRow (g + 1) 41 3 vb hb.length (bindsV (hb.map bind0))
 below : Below B1 w1 w
 lt : B1 ≤ g ∧ g < w.heap.size
 zb : ∀ q, vz.ownBlock = some q → q < g
theorem RaW.alloc {g B1 : Nat} {r : RuleM} {vh vf vby vl vn vz : Value} {hb : List Hl} {vb : Value} {w1 w : World} (h : RaW g B1 r vh vf vby vl vn vz hb vb w1 w) (o : Obj) : RaW g B1 r vh vf vby vl vn vz hb vb w1 (w.alloc o) := by
 have hl := h.lt
 exact ⟨by rw [Below.heap_alloc _ _ _ hl.2]; exact h.s, h.z.alloc _, h.b.alloc _, h.below.alloc (by omega) _, ⟨hl.1, by simp; omega⟩, h.zb⟩
theorem RaW.drew {g B1 : Nat} {r : RuleM} {vh vf vby vl vn vz : Value} {hb : List Hl} {vb : Value} {w1 w : World} (h : RaW g B1 r vh vf vby vl vn vz hb vb w1 w) : RaW g B1 r vh vf vby vl vn vz hb vb w1 w.drew := ⟨h.s, h.z, h.b, h.below.drew, h.lt, h.zb⟩
theorem RaW.cells {g B1 : Nat} {r : RuleM} {vh vf vby vl vn vz : Value} {hb : List Hl} {vb : Value} {w1 w : World} (h : RaW g B1 r vh vf vby vl vn vz hb vb w1 w) : w.cell? ⟨g, 7, none⟩ = some vb ∧ ∀ j, w.frozen? ⟨g, j, none⟩ = false := by
 simp only [World.cell?, World.frozen?, h.s]
 exact ⟨rfl, fun j => by simp⟩
theorem RaW.bcells {g B1 : Nat} {r : RuleM} {vh vf vby vl vn vz : Value} {hb : List Hl} {vb : Value} {w1 w w' : World} (h : RaW g B1 r vh vf vby vl vn vz hb vb w1 w) (hg : w.grownBy w' vb.ownBlock) : w'.cell? ⟨g, 7, none⟩ = some vb ∧ ∀ j, w'.frozen? ⟨g, j, none⟩ = false := by
 have e : w'.heap[g]? = w.heap[g]? := hg.block g h.lt.2 (fun e => by have := (h.b.lt g e.symm).1; omega)
 simp only [World.cell?, World.frozen?, e, h.s]
 exact ⟨rfl, fun j => by simp⟩
theorem RaW.grownB {g B1 : Nat} {r : RuleM} {vh vf vby vl vn vz : Value} {hb : List Hl} {vb : Value} {w1 w w' : World} (h : RaW g B1 r vh vf vby vl vn vz hb vb w1 w) (hg : w.grownBy w' vb.ownBlock) : Below B1 w1 w' :=
 h.below.grown hg (by have := h.lt; omega) (fun q e => by have := (h.b.lt q e).1; have := h.lt; omega)
theorem RaW.bind {g B1 : Nat} {r : RuleM} {vh vf vby vl vn vz : Value} {hb : List Hl} {vb : Value} {w1 w : World} (h : RaW g B1 r vh vf vby vl vn vz hb vb w1 w) (y : Hl) {v' : Value} {w' : World}
  (ho : w'.ownsRow (g + 1) 41 3 v' (hb.length + 1) (bindsV (hb.map bind0) ++ [.string y.1, .int .i64 0, .int .i64 0])) (hg : w.grownBy w' vb.ownBlock) : RaW g B1 r vh vf vby vl vn vz (hb ++ [y]) v' w1 (w'.setCell ⟨g, 7, none⟩ v') := by
 have hl := h.lt
 have hne : vb.ownBlock ≠ some g := fun e => by have := (h.b.lt g e).1; omega
 have hz' := other_row h.b hg h.z (by decide)
 refine ⟨?_, ownsRow_setCell_other hz' (fun e => by have := h.zb g e; omega) _, ?_, (h.below.grown hg (by omega) (fun q e => by have := (h.b.lt q e).1; omega)).setCell (p := ⟨g, 7, none⟩) hl.1 _, ⟨hl.1, by simp; have := hg.size; omega⟩, h.zb⟩
 ·have hk : w'.heap[g]? = w.heap[g]? := hg.block g hl.2 (fun e => hne e.symm)
  have := heap_setCell_same w' g 7 _ _ v' (by rw [hk]; exact h.s)
  exact this
 ·rw [binds0_snoc, List.length_append]
  exact ownsRow_setCell_other ho (fun e => by have := (ho.lt g e).1; omega) _
def wyE (g B1 : Nat) (r : RuleM) (l : List Prt) (vh vf vby vl vn vz vb : Value) (ns : List Nat) : WyE := ⟨⟨r.fnd, l, r.holes, g, vf, vl, undef, undef, undef, 0, 0, vb, vz, B1⟩, r.nm, r.goal, vh, vby, vn, ns⟩
theorem RaW.way {g B1 : Nat} {r : RuleM} {l : List Prt} {vh vf vby vl vn vz : Value} {vb : Value} {ns : List Nat} {w1 w : World} (h : RaW g B1 r vh vf vby vl vn vz r.holes vb w1 w) (hB : B1 = w1.heap.size)
  (F : PartRow w1 vf r.fnd) (L : PartRow w1 vl l) (H : HoleRow w1 vh r.holes) (N : RowInts w1 vn .i64 (natI ns)) : WyIn (wyE g B1 r l vh vf vby vl vn vz vb ns) (startS r.holes) w := by
 have hl := h.lt
 have hbb : ∀ k, vb.ownBlock = some k → g + 1 ≤ k := fun k e => (h.b.lt k e).1
 have hzz : ∀ k, vz.ownBlock = some k → B1 ≤ k ∧ k < g := fun k e => ⟨(h.z.lt k e).1, h.zb k e⟩
 have hkeep : ∀ w', KeptX (wyE g B1 r l vh vf vby vl vn vz vb ns).k w w' → ∀ q, q < w1.heap.size → q < w'.heap.size ∧ w'.heap[q]? = w1.heap[q]? := fun w' hk q hq => by
  have hs := h.below.size
  have h1 := hk.size
  refine ⟨by omega, ?_⟩
  rw [hk.block q (by omega) (fun e => by have := hbb q e.symm; omega) (fun e => by have := (hzz q e.symm).1; omega)]
  exact h.below.block q (by omega)
 refine ⟨fun w' hk => ⟨?_, Row.same F fun q _ hq => hkeep w' hk q hq, Row.same L fun q _ hq => hkeep w' hk q hq, Row.same H fun q _ hq => hkeep w' hk q hq, Row.same N fun q _ hq => hkeep w' hk q hq⟩, ?_, h.z, by unfold startS; simp [wyE], fun k q hq => absurd hq (startS_no _ _ _)⟩
 ·have := hk.block g hl.2 (fun e => by have := hbb g e.symm; omega) (fun e => by have := (hzz g e.symm).2; omega)
  show w'.heap[g]? = _
  rw [this, h.s]; rfl
 ·have := World.ownsRow.base_mono h.b (show B1 ≤ g + 1 by omega)
  show w.ownsRow B1 41 3 vb r.holes.length (bindsV (bindsOf r.holes (startS r.holes)))
  rw [binds_start]
  exact this
theorem RaW.ok {g B1 : Nat} {r : RuleM} {l : List Prt} {vh vf vby vl vn vz : Value} {vb : Value} {ns : List Nat} {w1 w : World} (h : RaW g B1 r vh vf vby vl vn vz r.holes vb w1 w) (hr : ruleZ r = 0) (hs : SmallR r) (hl : wellB l = true) (sl : SmallL l) (hn : ns.length = r.holes.length) (hb : ∀ n ∈ ns, n ≤ 1000000000) : WyOK (wyE g B1 r l vh vf vby vl vn vz vb ns) := by
 have hbb : ∀ k, vb.ownBlock = some k → g + 1 ≤ k := fun k e => (h.b.lt k e).1
 refine ⟨(rule_holes hr).1, hl, hs.f.1, sl.1, hs.h.1, fun x hx => ⟨(hs.h.2 x hx).2, (hs.h.2 x hx).1⟩, fun x hx => ?_, hs.f, sl, hn, hb, ?_, fun e => ?_, fun e => ?_⟩
 ·obtain ⟨i, hi, rfl⟩ := List.mem_iff_getElem.1 hx
  exact (holeB_inv hi ((ruleZ_inv hr).2.2.2.2.2.2.2 i hi)).2.2.1
 ·cases e : vb.ownBlock with
  | none => exact Or.inl e
  | some q =>
   refine Or.inr fun e2 => ?_
   have h1 := hbb q e
   have e3 : vz.ownBlock = some q := by rw [← e]; exact e2.symm
   have := h.zb q e3
   omega
 ·have := hbb g e.symm; omega
 ·have := h.zb g e.symm; omega
theorem lensL_le {os D : List Nat} {n m : Nat} (h : ∀ d ∈ D, d ≤ m) : ∀ x ∈ lensL os D n, x ≤ m := by
 intro x hx
 unfold lensL at hx
 obtain ⟨i, _, rfl⟩ := List.mem_map.1 hx
 unfold LD
 cases os.idxOf? i with
 | none => exact Nat.zero_le _
 | some j =>
  simp only []
  rw [List.getD_eq_getElem?_getD]
  by_cases hj : j < D.length
  ·rw [List.getElem?_eq_getElem hj]; exact h _ (List.getElem_mem hj)
  ·rw [List.getElem?_eq_none (by omega)]; exact Nat.zero_le _
theorem LF_eq {g B1 : Nat} {r : RuleM} {l : List Prt} {vh vf vby vl vn vz vb : Value} {os D : List Nat} (ho : ∀ x ∈ os, x < r.holes.length) : LF (wyE g B1 r l vh vf vby vl vn vz vb (lensL os D r.holes.length)) = LD os D := by
 funext h
 show (lensL os D r.holes.length).getD h 0 = LD os D h
 rw [List.getD_eq_getElem?_getD]
 by_cases hh : h < r.holes.length
 ·rw [List.getElem?_eq_getElem (by rw [lensL_len]; exact hh), lensL_get]; rfl
 ·rw [List.getElem?_eq_none (by rw [lensL_len]; omega), LD_none (fun hm => hh (ho h hm))]; rfl
def raRel (r : RuleM) (l : List Prt) (j most gl : Nat) (w5 wr : World) : Prop :=
 ∃ D : List Nat, D.length = (orderL r.fnd r.holes).length ∧ (∀ d ∈ D, d ≤ most) ∧ MTried r.fnd l r.holes most (fuelZ r.fnd) j (startS r.holes) D ∧ LensB wr gl (lensL (orderL r.fnd r.holes) D r.holes.length) ∧ Below gl w5 wr
def raMu (os : List Nat) (most gl : Nat) (wr : World) : Nat := (most + 1) ^ os.length - valD (most + 1) (os.map fun h => cellNat wr gl h)
def raIn (g B1 : Nat) (r : RuleM) (vh vf vby vl vn vz : Value) (w1 : World) (iv : Value) (wr : World) : Prop :=
 ∃ (k : Nat) (vb : Value), iv = .int .i64 (k : Int) ∧ k ≤ r.holes.length ∧ RaW g B1 r vh vf vby vl vn vz (r.holes.take k) vb w1 wr
def odRel (os D : List Nat) (most n gl : Nat) (w8 : World) (kv : Value) (wr : World) : Prop :=
 ∃ m : Nat, m ≤ D.length ∧ kv = .int .i64 ((m : Int) - 1) ∧ (∀ i (hi : i < D.length), m ≤ i → D[i] = most) ∧ LensB wr gl (lensL os (zerosL D m) n) ∧ Below gl w8 wr
theorem raMu_eq {os D : List Nat} {most gl n : Nat} {wr : World} (h : LensB wr gl (lensL os D n)) (hn : os.Nodup) (ho : ∀ x ∈ os, x < n) (hd : D.length = os.length) : raMu os most gl wr = (most + 1) ^ os.length - valD (most + 1) D := by
 have e : (os.map fun h => cellNat wr gl h) = D := by
  apply List.ext_getElem
  ·rw [List.length_map, hd]
  ·intro i h1 h2
   rw [List.length_map] at h1
   rw [List.getElem_map, h.nat (by rw [lensL_len]; exact ho _ (List.getElem_mem h1)), lensL_get, LD_at hn hd h1]
 unfold raMu
 rw [e]
theorem raMu_less {os D E : List Nat} {most gl n : Nat} {wr w' : World} (h : LensB wr gl (lensL os D n)) (h' : LensB w' gl (lensL os E n)) (hn : os.Nodup) (ho : ∀ x ∈ os, x < n) (hd : D.length = os.length) (hm : ∀ d ∈ D, d ≤ most) (he : incrD most D = some E) : raMu os most gl w' < raMu os most gl wr := by
 obtain ⟨h1, h2, h3⟩ := incr_some hm he
 rw [raMu_eq h hn ho hd, raMu_eq h' hn ho (h2.trans hd), h1]
 have h4 := valD_lt (B := most + 1) (D := E) (fun d hx => by have := h3 d hx; omega)
 rw [h1, h2, hd] at h4
 omega
end Go.Proofs.YtlkheofphafofaaGreatDoor
