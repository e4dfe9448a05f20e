/- The variable internal/bytealg.MaxLen, out of the world's shape. -/
import Derived.Test.YtmklemelgdilkaaDoorLaidMh
import Derived.Test.YtmklemelgdilkaaDoorQuoted5Mh
import Derived.Test.YtmklemelgdilkaaDoorRows
import Derived.Test.YtmklemelgdilkaaDoorTermMh
import Derived.Test.YtmklemelgdilkaaDoorPureMh
import Derived.ProofKit
import Derived.OpenShut
import Derived.ChangeOld
import Derived.Lib.LaidTab
import Derived.Test.YtmklemelgdilkaaDoorMapSMh
namespace Go.Proofs.YtmklemelgdilkaaDoor
set_option linter.all false
theorem maxC {W : World} (h : W.ShapedOpen Tryd.prog) : MaxC W := by
 obtain ⟨m, hm⟩ := Tryd.laysM155.s1_3 W h
 exact ⟨m, hm, cell_lt hm⟩
end Go.Proofs.YtmklemelgdilkaaDoor
namespace Go.Proofs.YtmklemelgdilkaaDoor
set_option linter.all false
open Go.ChangeShapes Go.WideShapes Go.ChangeAt Go.RowKit

end Go.Proofs.YtmklemelgdilkaaDoor
namespace Go.Proofs.YtmklemelgdilkaaDoor
set_option linter.all false
open Go.ChangeShapes Go.WideShapes Go.ChangeAt Go.RowKit

end Go.Proofs.YtmklemelgdilkaaDoor
namespace Go.Proofs.YtmklemelgdilkaaDoor
set_option linter.all false
open Go.ChangeShapes Go.WideShapes Go.ChangeAt Go.RowKit

theorem bulk_lits8 {H : Type} (k : IntKind) (zs : List Int) : Rows.uptoBulkAll (lits (H := H) k zs) = zs.length := by
 induction zs with
 | nil => simp [lits, Rows.uptoBulkAll]
 | cons z zs ih => simp only [lits, List.map_cons, Rows.uptoBulkAll, Rows.uptoBulk, List.length_cons] at *; omega
set_option maxRecDepth 100000 in
theorem open_sl8 {H : Type} {enc : TypeId × Value → H} {t e : TypeId} {k : IntKind} {W : World} {base : Nat} {v : Value} {d : DataW H} {p : List MemPlace} (ht : Tryd.prog.underlying t = some (.slice e)) (he : Tryd.prog.underlying e = some (.int k)) (hc : Tryd.prog.cellsOf e = 1)
  (hv : Value.okWide Tryd.prog W .any base t v) (h : DataW.Trod enc Tryd.prog W 0 (fun _ => true) true t v d p) :
  ∃ l : List Int, RowInts W v k l ∧ (∀ n ∈ l, (Lit.int k n).wf = true) ∧ l.length ≤ Rows.uptoBulk d := by
 obtain ⟨a0, len, cap, rfl⟩ := okWide_slice ht hv
 obtain ⟨fuel, hf⟩ := h
 rcases open_ints ht he hc hf with ⟨hcs, hx⟩ | ⟨a, len', cap', zs, hcs, _, hl, hm, hz, hx, hcell, hwz⟩
 ·simp [Value.cells] at hcs
  obtain ⟨rfl, rfl, rfl⟩ := hcs
  exact ⟨[], ⟨rfl, none, 0, rfl, Nat.le_refl _, fun _ => rfl, fun h => absurd h (by simp)⟩, (by simp), Nat.zero_le _⟩
 ·simp [Value.cells] at hcs
  obtain ⟨rfl, rfl, rfl⟩ := hcs
  have hzl : zs.length = cap := by simpa using hz
  refine ⟨zs.take len, ⟨by simp, some a, cap, by simp [hzl, hl], by simp [hzl]; omega, by simp, fun hn => ?_⟩, fun n hn => hwz n (List.mem_of_mem_take hn), ?_⟩
  ·have hn' : 0 < len := by rw [List.length_take, hzl] at hn; omega
   obtain ⟨b, off, spot⟩ := a
   have c0 := hcell 0 (by omega)
   have hspot : spot = none := by simpa [Addr.add] using World.cell?_spot c0
   subst hspot
   have c0' : W.cell? ⟨b, off, none⟩ = some (.int k (zs.getD 0 0)) := by simpa [Addr.add] using c0
   refine ⟨b, off, rfl, cell_lt c0', fun i hi => ?_⟩
   rw [List.length_take, hzl, Nat.mul_one] at hi
   have ci := hcell i (by omega)
   have e1 : (⟨b, off, none⟩ : Addr).add i = ⟨b, off + i, none⟩ := by simp [Addr.add]
   rw [e1] at ci
   rw [ci]
   have h3 : i < len := by omega
   have h4 : i < zs.length := by omega
   simp [h3, h4]
  ·simp only [Prod.mk.injEq] at hx
   rw [hx.1]
   simp only [Rows.uptoBulk, bulk_lits8]
   omega
set_option maxRecDepth 100000 in
theorem open_sluint8 {H : Type} {enc : TypeId × Value → H} {W : World} {base : Nat} {v : Value} {d : DataW H} {p : List MemPlace}
  (hv : Value.okWide Tryd.prog W .any base 39 v) (h : DataW.Trod enc Tryd.prog W 0 (fun _ => true) true 39 v d p) :
  ∃ l : List Int, RowInts W v .u8 l ∧ (∀ n ∈ l, (Lit.int .u8 n).wf = true) ∧ l.length ≤ Rows.uptoBulk d :=
 open_sl8 Tryd.underlying39 Tryd.underlying5 (by kernel_rfl) hv h
theorem bounds_u8 {r : Int} (h : (Lit.int .u8 r).wf = true) : 0 ≤ r ∧ r < 256 := by
 unfold Lit.wf at h
 simp only [Bool.and_eq_true, decide_eq_true_eq] at h
 have h1 : IntKind.u8.min = 0 := by decide
 have h2 : IntKind.u8.max = 255 := by decide
 omega
end Go.Proofs.YtmklemelgdilkaaDoor
