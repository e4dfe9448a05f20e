/- Arguments that are slices of parts, opened. -/
import Derived.Test.YtmklemelgdilkaaDoorRows
import Derived.Test.YtmklemelgdilkaaDoorTermMg
import Derived.Test.YtmklemelgdilkaaDoorPureMg
import Derived.ProofKit
import Derived.OpenShut
import Derived.ChangeOld
import Derived.Lib.LaidTab
namespace Go.Proofs.YtmklemelgdilkaaDoor
set_option linter.all false
open Go.ChangeShapes Go.WideShapes Go.ChangeAt Go.RowKit

theorem cell_lt' {w : World} {b o : Nat} {v : Value} (h : w.cell? ⟨b, o, none⟩ = some v) : b < w.heap.size := by
 apply Classical.byContradiction
 intro hn
 unfold World.cell? at h
 rw [Array.getElem?_eq_none (by simpa using hn)] at h
 cases h
def partD {H : Type} (p : Prt) : DataW H := .agg [.lit (.int .u8 p.1), .lit (.int .i64 p.2.1), .lit (.string p.2.2.data.toList)]
theorem bulk_parts {H : Type} : ∀ l : List Prt, l.length * 4 ≤ Rows.uptoBulkAll (l.map (partD (H := H))) ∧ ∀ p ∈ l, p.2.2.size ≤ Rows.uptoBulkAll (l.map (partD (H := H)))
 | [] => ⟨by simp [Rows.uptoBulkAll], fun p hp => by cases hp⟩
 | p :: l => by
  obtain ⟨h1, h2⟩ := bulk_parts (H := H) l
  have e : Rows.uptoBulkAll ((p :: l).map (partD (H := H))) = p.2.2.size + 4 + Rows.uptoBulkAll (l.map (partD (H := H))) := by
   rw [List.map_cons, Rows.uptoBulkAll]
   unfold partD
   simp only [Rows.uptoBulk, Rows.uptoBulkAll, ← size_data]
   omega
  rw [e]
  refine ⟨by rw [List.length_cons]; omega, fun q hq => ?_⟩
  rcases List.mem_cons.1 hq with rfl | hq
  ·omega
  ·have := h2 q hq; omega
theorem cells_at {W : World} {a : Addr} {n : Nat} {cs : List Value} (h : W.cells? 0 a n = some cs) : cs.length = n ∧ ∀ j, j < n → W.cell? (a.add j) = cs[j]? := by
 unfold World.cells? at h
 rw [if_pos (Nat.zero_le _)] at h
 refine ⟨by simpa using Lib.mapM_length h, fun j hj => ?_⟩
 obtain ⟨b, h1, h2⟩ := Lib.mapM_at h j j (by simp [hj])
 rw [h1, h2]
theorem part_fields : ∃ fs, Tryd.prog.underlying 38 = some (.struct fs) ∧ fs.size = 3 ∧ (fs[0]?.map fun f => (f.type, f.offset)) = some (5, 0) ∧ (fs[1]?.map fun f => (f.type, f.offset)) = some (3, 1) ∧ (fs[2]?.map fun f => (f.type, f.offset)) = some (9, 2) :=
 ⟨_, Tryd.underlying38, by kernel_rfl, by kernel_rfl, by kernel_rfl, by kernel_rfl⟩
set_option maxRecDepth 100000 in
theorem part_open {H : Type} {enc : TypeId × Value → H} {W : World} {sp : Nat → Bool} {held : Bool} {n : Nat} {cs : List Value} {y : DataW H × List MemPlace}
  (h : DataW.trod enc Tryd.prog W 0 sp held n 38 cs = some y) : ∃ p : Prt, cs = partV p ∧ p.1 < 256 ∧ y.1 = partD p := by
 obtain ⟨fs, hf, hs, f0, f1, f2⟩ := part_fields
 obtain ⟨xs, m, _, hy, hl, hxl, hall⟩ := DataW.trod_struct hf h
 rw [show Tryd.prog.cellsOf 38 = 3 by kernel_rfl] at hl
 obtain ⟨c0, c1, c2, rfl⟩ : ∃ c0 c1 c2, cs = [c0, c1, c2] := by
  match cs, hl with
  | [a, b, c], _ => exact ⟨a, b, c, rfl⟩
 obtain ⟨x0, x1, x2, rfl⟩ : ∃ c0 c1 c2, xs = [c0, c1, c2] := by
  rw [hs] at hxl
  match xs, hxl with
  | [a, b, c], _ => exact ⟨a, b, c, rfl⟩
 obtain ⟨g0, e0, e0'⟩ := Option.map_eq_some_iff.1 f0
 obtain ⟨g1, e1, e1'⟩ := Option.map_eq_some_iff.1 f1
 obtain ⟨g2, e2, e2'⟩ := Option.map_eq_some_iff.1 f2
 simp only [Prod.mk.injEq] at e0' e1' e2'
 have a0 := hall 0 g0 e0
 have a1 := hall 1 g1 e1
 have a2 := hall 2 g2 e2
 rw [e0'.1, e0'.2, show Tryd.prog.cellsOf 5 = 1 by kernel_rfl] at a0
 rw [e1'.1, e1'.2, show Tryd.prog.cellsOf 3 = 1 by kernel_rfl] at a1
 rw [e2'.1, e2'.2, show Tryd.prog.cellsOf 9 = 1 by kernel_rfl] at a2
 obtain ⟨z0, hz0, hx0, hw0⟩ := DataW.trod_int Tryd.underlying5 (by simpa using a0)
 obtain ⟨z1, hz1, hx1, _⟩ := DataW.trod_int Tryd.underlying3 (by simpa using a1)
 obtain ⟨z2, hz2, hx2, _⟩ := DataW.trod_string Tryd.underlying9 (by simpa using a2)
 simp at hz0 hz1 hz2
 subst hz0 hz1 hz2
 have hb := bounds_u8 hw0
 refine ⟨(z0.toNat, z1, z2), ?_, by show z0.toNat < 256; omega, ?_⟩
 ·unfold partV
  simp only []
  rw [show ((z0.toNat : Nat) : Int) = z0 by omega]
 ·rw [hy]
  unfold partD
  simp only [List.map_cons, List.map_nil, hx0, hx1, hx2]
  rw [show ((z0.toNat : Nat) : Int) = z0 by omega]
set_option maxRecDepth 100000 in
theorem open_slapiPart {H : Type} {enc : TypeId × Value → H} {W : World} {base : Nat} {v : Value} {d : DataW H} {p : List MemPlace}
  (hv : Value.okWide Tryd.prog W .any base 23 v) (h : DataW.Trod enc Tryd.prog W 0 (fun _ => true) true 23 v d p) :
  ∃ l : List Prt, PartRow W v l ∧ (∀ p ∈ l, p.1 < 256 ∧ p.2.2.size ≤ Rows.uptoBulk d) ∧ l.length * 4 ≤ Rows.uptoBulk d := by
 obtain ⟨a0, len, cap, rfl⟩ := okWide_slice Tryd.underlying23 hv
 obtain ⟨fuel, hf⟩ := h
 rcases DataW.trod_slice Tryd.underlying23 hf with ⟨hcs, hx⟩ | ⟨a, len', cap', elems, rest, n, _, hcs, hx, _, hl, hm, hlen, hel, _, _⟩
 ·simp [Value.cells] at hcs
  obtain ⟨rfl, rfl, rfl⟩ := hcs
  exact ⟨[], ⟨rfl, none, 0, rfl, Nat.le_refl _, fun _ => rfl, fun h => absurd h (by simp)⟩, (by simp), Nat.zero_le _⟩
 ·simp [Value.cells] at hcs
  obtain ⟨rfl, rfl, rfl⟩ := hcs
  rw [show Tryd.prog.cellsOf 38 = 3 by kernel_rfl] at hel
  have each : ∀ i, i < len → ∃ q : Prt, q.1 < 256 ∧ (∃ y, elems[i]? = some y ∧ y.1 = partD q) ∧ ∀ j, j < 3 → W.cell? ((a.add (i * 3)).add j) = (partV q)[j]? := by
   intro i hi
   have h1 := hel i hi
   rw [List.getElem?_eq_getElem (by omega)] at h1
   obtain ⟨cs, hcs, ht⟩ := Option.bind_eq_some_iff.1 h1
   obtain ⟨hcl, hcell⟩ := cells_at hcs
   obtain ⟨q, rfl, hq, hy⟩ := part_open ht
   exact ⟨q, hq, ⟨_, List.getElem?_eq_getElem (by omega), hy⟩, hcell⟩
  let f : Nat → Prt := fun i => if h : i < len then Classical.choose (each i h) else (0, 0, ByteArray.empty)
  have hf2 : ∀ i, i < len → (f i).1 < 256 ∧ (∃ y, elems[i]? = some y ∧ y.1 = partD (f i)) ∧ ∀ j, j < 3 → W.cell? ((a.add (i * 3)).add j) = (partV (f i))[j]? := by
   intro i hi
   have := Classical.choose_spec (each i hi)
   simp only [f, dif_pos hi]
   exact this
  have hll : ((List.range len).map f).length = len := by simp
  have hmap : elems.map (·.1) = ((List.range len).map f).map partD := by
   apply List.ext_getElem?
   intro i
   by_cases hi : i < len
   ·obtain ⟨_, ⟨y, hy, hy2⟩, _⟩ := hf2 i hi
    simp [hy, hy2, hi]
   ·rw [List.getElem?_eq_none (by simp; omega), List.getElem?_eq_none (by simp; omega)]
  have hbulk : Rows.uptoBulk d = Rows.uptoBulkAll (((List.range len).map f).map (partD (H := H))) + Rows.uptoBulkAll (rest.map (·.1)) + 1 := by
   simp only [Prod.mk.injEq] at hx
   rw [hx.1, hmap]
   rfl
  obtain ⟨hb1, hb2⟩ := bulk_parts (H := H) ((List.range len).map f)
  refine ⟨(List.range len).map f, ?_, ?_, by omega⟩
  ·refine ⟨partsV_length _, some a, cap, by rw [hll], by rw [hll]; exact hl, by simp, fun hn => ?_⟩
   rw [hll] at hn
   obtain ⟨b, off, spot⟩ := a
   have c0 := (hf2 0 hn).2.2 0 (by omega)
   have hc0 : W.cell? ((Addr.add ⟨b, off, spot⟩ (0 * 3)).add 0) = some (.int .u8 ((f 0).1 : Int)) := c0
   have hspot : spot = none := by simpa [Addr.add] using World.cell?_spot hc0
   subst hspot
   have c0' : W.cell? ⟨b, off, none⟩ = some (.int .u8 ((f 0).1 : Int)) := by simpa [Addr.add] using hc0
   refine ⟨b, off, rfl, cell_lt' c0', fun i hi => ?_⟩
   rw [hll] at hi
   have hq : i / 3 < ((List.range len).map f).length := by rw [hll]; omega
   obtain ⟨p0, p1, p2⟩ := partsV_at ((List.range len).map f) (i / 3) hq
   have hg : ((List.range len).map f)[i / 3] = f (i / 3) := by simp
   rw [hg] at p0 p1 p2
   have hc := (hf2 (i / 3) (by omega)).2.2 (i % 3) (Nat.mod_lt _ (by omega))
   have ea : (Addr.add ⟨b, off, none⟩ (i / 3 * 3)).add (i % 3) = ⟨b, off + i, none⟩ := by
    have e3 : off + i / 3 * 3 + i % 3 = off + i := by omega
    simp only [Addr.add]
    split <;> split <;> simp_all <;> omega
   rw [ea] at hc
   rw [hc]
   have h3 : i % 3 = 0 ∨ i % 3 = 1 ∨ i % 3 = 2 := by omega
   rcases h3 with h3 | h3 | h3
   ·rw [h3, show i = i / 3 * 3 by omega, show i / 3 * 3 / 3 = i / 3 by omega, p0]; rfl
   ·rw [h3, show i = i / 3 * 3 + 1 by omega, show (i / 3 * 3 + 1) / 3 = i / 3 by omega, p1]; rfl
   ·rw [h3, show i = i / 3 * 3 + 2 by omega, show (i / 3 * 3 + 2) / 3 = i / 3 by omega, p2]; rfl
  ·intro q hq
   obtain ⟨i, hi, rfl⟩ := List.mem_map.1 hq
   have := hb2 _ hq
   exact ⟨(hf2 i (by simpa using hi)).1, by omega⟩
end Go.Proofs.YtmklemelgdilkaaDoor
