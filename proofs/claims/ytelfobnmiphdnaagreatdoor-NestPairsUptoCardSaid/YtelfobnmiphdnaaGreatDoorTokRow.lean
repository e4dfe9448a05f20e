/- A slice of tokens, read. -/
import Derived.Test.YtelfobnmiphdnaaGreatDoorScan7
import Derived.Test.YtelfobnmiphdnaaGreatDoorSemiP
namespace Go.Proofs.YtelfobnmiphdnaaGreatDoor
set_option linter.all false
open Go.RowKit

/-- Where the tokens of an owned row lie. -/
theorem tok_row {w : World} {B : Nat} {v : Value} {l : List (Int × Nat × Nat)} (h : w.ownsRow B 41 3 v l.length (toksV l)) (hpos : 0 < l.length) :
    ∃ b cap, v = .slice (some ⟨b, 0, none⟩) l.length cap ∧ l.length ≤ cap ∧ b < w.heap.size ∧ ∀ i (hi : i < l.length), w.cell? ⟨b, i * 3, none⟩ = some (.int .u8 l[i].1) ∧ w.cell? ⟨b, i * 3 + 1, none⟩ = some (.int .i64 (l[i].2.1 : Nat)) ∧ w.cell? ⟨b, i * 3 + 2, none⟩ = some (.int .i64 (l[i].2.2 : Nat)) := by
  rcases h.2 with ⟨hv, hn⟩ | ⟨g, cap, cur, hv, hg, hh, hnc, _, hcs, htk⟩
  · omega
  · have hown : w.ownsRow B 41 3 (.slice (some ⟨g, 0, none⟩) l.length cap) l.length (toksV l) := hv ▸ h
    refine ⟨g, cap, hv, hnc, keeps_lt hh, fun i hi => ?_⟩
    have key : ∀ (l : List (Int × Nat × Nat)) i (hi : i < l.length), (toksV l)[i * 3]? = some (.int .u8 l[i].1) ∧ (toksV l)[i * 3 + 1]? = some (.int .i64 (l[i].2.1 : Nat)) ∧ (toksV l)[i * 3 + 2]? = some (.int .i64 (l[i].2.2 : Nat)) := by
      intro l
      induction l with
      | nil => intro i hi; simp at hi
      | cons t l ih =>
        intro i hi
        have e : toksV (t :: l) = tokV t ++ toksV l := rfl
        cases i with
        | zero => exact ⟨rfl, rfl, rfl⟩
        | succ i =>
          have := ih i (by simpa using hi)
          rw [e]
          simp only [List.getElem_cons_succ]
          rw [List.getElem?_append_right (by simp [tokV]; omega), List.getElem?_append_right (by simp [tokV]; omega), List.getElem?_append_right (by simp [tokV]; omega)]
          have e1 : (i + 1) * 3 - (tokV t).length = i * 3 := by simp [tokV]; omega
          have e2 : (i + 1) * 3 + 1 - (tokV t).length = i * 3 + 1 := by simp [tokV]; omega
          have e3 : (i + 1) * 3 + 2 - (tokV t).length = i * 3 + 2 := by simp [tokV]; omega
          rw [e1, e2, e3]
          exact this
    have hk := key l i hi
    have hlen := toksV_length l
    refine ⟨?_, ?_, ?_⟩
    · rw [hown.cellAt (i * 3) (by omega)]; exact hk.1
    · rw [hown.cellAt (i * 3 + 1) (by omega)]; exact hk.2.1
    · rw [hown.cellAt (i * 3 + 2) (by omega)]; exact hk.2.2
/-- A slice of tokens, read. -/
def TokRow (w : World) (v : Value) (l : List Tok) : Prop :=
  ∃ a cap, v = .slice a l.length cap ∧ l.length ≤ cap ∧ (0 < l.length → ∃ b, a = some ⟨b, 0, none⟩ ∧ b < w.heap.size ∧ ∀ i (hi : i < l.length), w.cell? ⟨b, i * 3, none⟩ = some (.int .u8 l[i].1) ∧ w.cell? ⟨b, i * 3 + 1, none⟩ = some (.int .i64 (l[i].2.1 : Nat)) ∧ w.cell? ⟨b, i * 3 + 2, none⟩ = some (.int .i64 (l[i].2.2 : Nat)))
theorem TokRow.of_owns {w : World} {B : Nat} {v : Value} {l : List Tok} (h : w.ownsRow B 41 3 v l.length (toksV l)) : TokRow w v l := by
  obtain ⟨_, a, cap, hv, hc, _, _⟩ := Row.of_owns h
  refine ⟨a, cap, hv, hc, fun hpos => ?_⟩
  obtain ⟨b, cap', hv', _, hbl, hcell⟩ := tok_row h hpos
  rw [hv] at hv'
  simp only [Value.slice.injEq] at hv'
  exact ⟨b, hv'.1, hbl, hcell⟩
theorem TokRow.below {w w' : World} {v : Value} {l : List Tok} (h : TokRow w v l) (hb : Below w.heap.size w w') : TokRow w' v l := by
  obtain ⟨a, cap, hv, hc, h2⟩ := h
  refine ⟨a, cap, hv, hc, fun hpos => ?_⟩
  obtain ⟨b, ha, hbl, hcell⟩ := h2 hpos
  refine ⟨b, ha, Nat.lt_of_lt_of_le hbl hb.size, fun i hi => ?_⟩
  have := hcell i hi
  exact ⟨by rw [hb.cell (p := ⟨b, i * 3, none⟩) hbl]; exact this.1, by rw [hb.cell (p := ⟨b, i * 3 + 1, none⟩) hbl]; exact this.2.1, by rw [hb.cell (p := ⟨b, i * 3 + 2, none⟩) hbl]; exact this.2.2⟩
theorem TokRow.at {w w' : World} {a : Option Addr} {n cap : Nat} {l : List Tok} (h : TokRow w (.slice a n cap) l) (hb : Below w.heap.size w w') {i : Nat} (hi : i < l.length) :
    ∃ b, a = some ⟨b, 0, none⟩ ∧ n = l.length ∧ l.length ≤ cap ∧ w'.cell? ⟨b, i * 3, none⟩ = some (.int .u8 l[i].1) ∧ w'.cell? ⟨b, i * 3 + 1, none⟩ = some (.int .i64 (l[i].2.1 : Nat)) ∧ w'.cell? ⟨b, i * 3 + 2, none⟩ = some (.int .i64 (l[i].2.2 : Nat)) := by
  obtain ⟨a', cap', hv, hc, hcells⟩ := h.below hb
  simp only [Value.slice.injEq] at hv
  obtain ⟨rfl, rfl, rfl⟩ := hv
  obtain ⟨b, hb', _, hcell⟩ := hcells (by omega)
  have := hcell i hi
  exact ⟨b, hb', rfl, hc, this.1, this.2.1, this.2.2⟩
/-- A slice whose block is not an elder one. -/
def NewV (B : Nat) (v : Value) : Prop := ∀ b, v.ownBlock = some b → B ≤ b
theorem NewV.mono {B B' : Nat} {v : Value} (h : NewV B v) (hb : B' ≤ B) : NewV B' v := fun b e => Nat.le_trans hb (h b e)
theorem NewV.of_owns {w : World} {B : Nat} {v : Value} {e : TypeId} {size n : Nat} {xs : List Value} (h : w.ownsRow B e size v n xs) : NewV B v := fun b eb => (h.lt b eb).1
theorem NewV.none (B : Nat) : NewV B (.slice none 0 0) := fun b e => by simp [Value.ownBlock] at e
theorem cell_setCell_ne {w : World} {a : Addr} {b i : Nat} (h : b ≠ a.block) (u : Value) : (w.setCell a u).cell? ⟨b, i, none⟩ = w.cell? ⟨b, i, none⟩ := by
  simp only [World.cell?, heap_setCell_other _ _ _ _ h]
theorem TokRow.setCell {w : World} {v : Value} {l : List Tok} (h : TokRow w v l) {a : Addr} (ha : v.ownBlock ≠ some a.block) (u : Value) : TokRow (w.setCell a u) v l := by
  obtain ⟨a', cap, hv, hc, h2⟩ := h
  refine ⟨a', cap, hv, hc, fun hpos => ?_⟩
  obtain ⟨b, hb, hbl, hcell⟩ := h2 hpos
  have hne : b ≠ a.block := fun e => ha (by rw [hv, hb, ← e]; rfl)
  refine ⟨b, hb, by simpa using hbl, fun i hi => ?_⟩
  have := hcell i hi
  exact ⟨by rw [cell_setCell_ne hne]; exact this.1, by rw [cell_setCell_ne hne]; exact this.2.1, by rw [cell_setCell_ne hne]; exact this.2.2⟩
theorem Row.setCell {w : World} {v : Value} {n sz : Nat} {cs : List Value} (h : Row w v n sz cs) {a : Addr} (ha : v.ownBlock ≠ some a.block) (u : Value) : Row (w.setCell a u) v n sz cs := by
  obtain ⟨h1, a', cap, hv, hc, hz, h2⟩ := h
  refine ⟨h1, a', cap, hv, hc, hz, fun hpos => ?_⟩
  obtain ⟨b, off, hb, hbl, hcell⟩ := h2 hpos
  have hne : b ≠ a.block := fun e => ha (by rw [hv, hb, ← e]; rfl)
  exact ⟨b, off, hb, by simpa using hbl, fun i hi => by rw [cell_setCell_ne hne]; exact hcell i hi⟩
theorem RowInts.setCell {w : World} {v : Value} {k : IntKind} {l : List Int} (h : RowInts w v k l) {a : Addr} (ha : v.ownBlock ≠ some a.block) (u : Value) : RowInts (w.setCell a u) v k l := Row.setCell h ha u
theorem NewV.ne {B : Nat} {v : Value} (h : NewV B v) {g : Nat} (hg : g < B) : v.ownBlock ≠ some g := fun e => by have := h g e; omega
theorem TokRow.none (w : World) : TokRow w (.slice none 0 0) [] := ⟨Option.none, 0, rfl, Nat.le_refl _, fun h => absurd h (by simp)⟩
theorem RowInts.none (w : World) (k : IntKind) : RowInts w (.slice none 0 0) k [] := ⟨rfl, Option.none, 0, rfl, Nat.le_refl _, fun _ => rfl, fun h => absurd h (by simp)⟩
end Go.Proofs.YtelfobnmiphdnaaGreatDoor
