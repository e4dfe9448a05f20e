/- Arguments that are slices of integers, opened: what the walks take of them. -/
import Derived.Test.YtfgchnhjboehpaaDoorLaid
namespace Go.Proofs.YtfgchnhjboehpaaDoor
open Go.ChangeShapes Go.WideShapes Go.ChangeAt Go.RowKit

theorem bulk_lits {H : Type} (k : IntKind) (zs : List Int) : Rows.uptoBulkAll (lits (H := H) k zs) = zs.length := by
  induction zs with
  | nil => simp [lits, Rows.uptoBulkAll]
  | cons z zs ih => simp only [lits, List.map_cons, Rows.uptoBulkAll, Rows.uptoBulk, List.length_cons] at *; omega
theorem open_sl {H : Type} {enc : TypeId × Value → H} {t e : TypeId} {k : IntKind} {W : World} {base : Nat} {v : Value} {d : DataW H} {p : List MemPlace} (ht : Tryd.prog.underlying t = some (.slice e)) (he : Tryd.prog.underlying e = some (.int k)) (hc : Tryd.prog.cellsOf e = 1)
    (hv : Value.okWide Tryd.prog W .any base t v) (h : DataW.Trod enc Tryd.prog W 0 (fun _ => true) true t v d p) :
    ∃ l : List Int, RowInts W v k l ∧ (∀ n ∈ l, (Lit.int k n).wf = true) ∧ l.length ≤ Rows.uptoBulk d := by
  obtain ⟨a0, len, cap, rfl⟩ := okWide_slice ht hv
  obtain ⟨fuel, hf⟩ := h
  rcases open_ints ht he hc hf with ⟨hcs, hx⟩ | ⟨a, len', cap', zs, hcs, _, hl, hm, hz, hx, hcell, hwz⟩
  · simp [Value.cells] at hcs
    obtain ⟨rfl, rfl, rfl⟩ := hcs
    exact ⟨[], ⟨rfl, none, 0, rfl, Nat.le_refl _, fun _ => rfl, fun h => absurd h (by simp)⟩, (by simp), Nat.zero_le _⟩
  · simp [Value.cells] at hcs
    obtain ⟨rfl, rfl, rfl⟩ := hcs
    have hzl : zs.length = cap := by simpa using hz
    refine ⟨zs.take len, ⟨by simp, some a, cap, by simp [hzl, hl], by simp [hzl]; omega, by simp, fun hn => ?_⟩, fun n hn => hwz n (List.mem_of_mem_take hn), ?_⟩
    · have hn' : 0 < len := by rw [List.length_take, hzl] at hn; omega
      obtain ⟨b, off, spot⟩ := a
      have c0 := hcell 0 (by omega)
      have hspot : spot = none := by simpa [Addr.add] using World.cell?_spot c0
      subst hspot
      have c0' : W.cell? ⟨b, off, none⟩ = some (.int k (zs.getD 0 0)) := by simpa [Addr.add] using c0
      refine ⟨b, off, rfl, cell_lt c0', fun i hi => ?_⟩
      rw [List.length_take, hzl, Nat.mul_one] at hi
      have ci := hcell i (by omega)
      have e1 : (⟨b, off, none⟩ : Addr).add i = ⟨b, off + i, none⟩ := by simp [Addr.add]
      rw [e1] at ci
      rw [ci]
      have h3 : i < len := by omega
      have h4 : i < zs.length := by omega
      simp [h3, h4]
    · simp only [Prod.mk.injEq] at hx
      rw [hx.1]
      simp only [Rows.uptoBulk, bulk_lits]
      omega
theorem open_slint32 {H : Type} {enc : TypeId × Value → H} {W : World} {base : Nat} {v : Value} {d : DataW H} {p : List MemPlace}
    (hv : Value.okWide Tryd.prog W .any base 32 v) (h : DataW.Trod enc Tryd.prog W 0 (fun _ => true) true 32 v d p) :
    ∃ l : List Int, RowInts W v .i32 l ∧ (∀ n ∈ l, (Lit.int .i32 n).wf = true) ∧ l.length ≤ Rows.uptoBulk d :=
  open_sl Tryd.underlying32 Tryd.underlying21 (by kernel_rfl) hv h
theorem i32s {l : List Int} (h : ∀ n ∈ l, (Lit.int .i32 n).wf = true) : ∀ x ∈ l, -2147483648 ≤ x ∧ x ≤ 2147483647 := fun x hx => bounds_i32 (h x hx)
end Go.Proofs.YtfgchnhjboehpaaDoor
