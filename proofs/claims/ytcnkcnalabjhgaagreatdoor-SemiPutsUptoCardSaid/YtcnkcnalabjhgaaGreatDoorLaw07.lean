/- Layer 7: the law's own examples, walked. -/
import Derived.Test.YtcnkcnalabjhgaaGreatDoorScan7
namespace Go.Proofs.YtcnkcnalabjhgaaGreatDoor
set_option linter.all false
open Go.RowKit

theorem ex7_all : scanAll ⟨#[120, 58, 61, 49, 46, 53, 47, 47, 99]⟩ = ([(1, 0, 1), (8, 1, 3), (4, 3, 6), (11, 6, 9)], 0, 0) := by decide +kernel
theorem ex7_one : oneZ ⟨#[97, 38, 94, 61, 98]⟩ 1 = (8, 1, 4, 0) := by decide +kernel
theorem ex7_bad : scanAll ⟨#[97, 32, 47, 42, 32, 98]⟩ = ([], 4, 2) := by decide +kernel
/-- Where the tokens of an owned row lie. -/
theorem tok_row {w : World} {B : Nat} {v : Value} {l : List (Int × Nat × Nat)} (h : w.ownsRow B 24 3 v l.length (toksV l)) (hpos : 0 < l.length) :
    ∃ b cap, v = .slice (some ⟨b, 0, none⟩) l.length cap ∧ l.length ≤ cap ∧ b < w.heap.size ∧ ∀ i (hi : i < l.length), w.cell? ⟨b, i * 3, none⟩ = some (.int .u8 l[i].1) ∧ w.cell? ⟨b, i * 3 + 1, none⟩ = some (.int .i64 (l[i].2.1 : Nat)) ∧ w.cell? ⟨b, i * 3 + 2, none⟩ = some (.int .i64 (l[i].2.2 : Nat)) := by
  rcases h.2 with ⟨hv, hn⟩ | ⟨g, cap, cur, hv, hg, hh, hnc, _, hcs, htk⟩
  · omega
  · have hown : w.ownsRow B 24 3 (.slice (some ⟨g, 0, none⟩) l.length cap) l.length (toksV l) := hv ▸ h
    refine ⟨g, cap, hv, hnc, keeps_lt hh, fun i hi => ?_⟩
    have key : ∀ (l : List (Int × Nat × Nat)) i (hi : i < l.length), (toksV l)[i * 3]? = some (.int .u8 l[i].1) ∧ (toksV l)[i * 3 + 1]? = some (.int .i64 (l[i].2.1 : Nat)) ∧ (toksV l)[i * 3 + 2]? = some (.int .i64 (l[i].2.2 : Nat)) := by
      intro l
      induction l with
      | nil => intro i hi; simp at hi
      | cons t l ih =>
        intro i hi
        have e : toksV (t :: l) = tokV t ++ toksV l := rfl
        cases i with
        | zero => exact ⟨rfl, rfl, rfl⟩
        | succ i =>
          have := ih i (by simpa using hi)
          rw [e]
          simp only [List.getElem_cons_succ]
          rw [List.getElem?_append_right (by simp [tokV]; omega), List.getElem?_append_right (by simp [tokV]; omega), List.getElem?_append_right (by simp [tokV]; omega)]
          have e1 : (i + 1) * 3 - (tokV t).length = i * 3 := by simp [tokV]; omega
          have e2 : (i + 1) * 3 + 1 - (tokV t).length = i * 3 + 1 := by simp [tokV]; omega
          have e3 : (i + 1) * 3 + 2 - (tokV t).length = i * 3 + 2 := by simp [tokV]; omega
          rw [e1, e2, e3]
          exact this
    have hk := key l i hi
    have hlen := toksV_length l
    refine ⟨?_, ?_, ?_⟩
    · rw [hown.cellAt (i * 3) (by omega)]; exact hk.1
    · rw [hown.cellAt (i * 3 + 1) (by omega)]; exact hk.2.1
    · rw [hown.cellAt (i * 3 + 2) (by omega)]; exact hk.2.2
set_option maxRecDepth 100000 in
set_option maxHeartbeats 4000000 in
theorem law07_fixed (w : World) (hT : Tabs w) (hM : MaxC w) :
    Calls Tryz.prog 7 #[] w fun e w' => e = .returned (.bool true) ∧ Below w.heap.size w w' := by
  have HQ : RowKit.Hid (∀ w', Below w.heap.size w w' → (fun (e : Ending) w' => e = .returned (.bool true) ∧ Below w.heap.size w w') (.returned (.bool true)) w') := Lib.hid fun w' h => ⟨rfl, h⟩
  generalize (fun (e : Ending) w' => e = .returned (.bool true) ∧ Below w.heap.size w w') = Q at *
  have C1 := Lib.hid (scan_All ⟨#[120, 58, 61, 49, 46, 53, 47, 47, 99]⟩ (by decide) w hT hM)
  have C2 := Lib.hid (fun w' (hb : Below w.heap.size w w') => scan_One ⟨#[97, 38, 94, 61, 98]⟩ 1 (by decide) w' (hT.below hb) (hM.below hb))
  have C3 := Lib.hid (fun w' (hb : Below w.heap.size w w') => scan_All ⟨#[97, 32, 47, 42, 32, 98]⟩ (by decide) w' (hT.below hb) (hM.below hb))
  go_enter Tryz.func7, Tryz.ntmps7
  go_wp2_with fail
  refine C1.out.mono ?_
  intro e w1 h1
  unfold allPost at h1
  rw [ex7_all] at h1
  obtain ⟨v1, rfl, hb1, ho1⟩ := h1
  obtain ⟨b, cap, hv, hcap, hbl, hcell⟩ := tok_row ho1 (by decide)
  subst hv
  have x10 : w1.cell? ⟨b, 3, none⟩ = some (.int .u8 8) := (hcell 1 (by decide)).1
  have x11 : w1.cell? ⟨b, 4, none⟩ = some (.int .i64 1) := (hcell 1 (by decide)).2.1
  have x12 : w1.cell? ⟨b, 5, none⟩ = some (.int .i64 3) := (hcell 1 (by decide)).2.2
  have x30 : w1.cell? ⟨b, 9, none⟩ = some (.int .u8 11) := (hcell 3 (by decide)).1
  have hcap4 : (4 : Int) ≤ cap := by simp at hcap; omega
  have HX : RowKit.Hid (∀ W, Below w1.heap.size w1 W → W.cell? ⟨b, 3, none⟩ = some (.int .u8 8) ∧ W.cell? ⟨b, 4, none⟩ = some (.int .i64 1) ∧ W.cell? ⟨b, 5, none⟩ = some (.int .i64 3) ∧ W.cell? ⟨b, 9, none⟩ = some (.int .u8 11)) := Lib.hid fun W h =>
    ⟨by rw [h.cell (p := ⟨b, 3, none⟩) hbl]; exact x10, by rw [h.cell (p := ⟨b, 4, none⟩) hbl]; exact x11, by rw [h.cell (p := ⟨b, 5, none⟩) hbl]; exact x12, by rw [h.cell (p := ⟨b, 9, none⟩) hbl]; exact x30⟩
  have HB1 := Lib.hid hb1
  have HF1 : RowKit.Hid (FK (w1.alloc (.cells #[.int .i64 0, .int .i64 0] 31)) w1.heap.size 0 0) := Lib.hid (by unfold FK; exact heap_alloc_new _ _)
  have HA1 : RowKit.Hid (Below w1.heap.size w1 (w1.alloc (.cells #[.int .i64 0, .int .i64 0] 31))) := Lib.hid ((Below.refl _ _).alloc (Nat.le_refl _) _)
  clear hb1 ho1 hcell C1 x10 x11 x12 x30 hcap
  go_wp2_with fail
  refine (C2.out _ (HB1.out.alloc HB1.out.size _)).mono ?_
  intro e w2 h2
  unfold nextPost at h2
  rw [ex7_one] at h2
  obtain ⟨rfl, hb2⟩ := h2
  have HA2 := Lib.hid (bthen HA1.out hb2)
  have HF2 := Lib.hid (HF1.out.keep hb2)
  clear hb2 HA1 HF1
  have HA3 := Lib.hid (HA2.out.alloc HA2.out.size (.cells #[.int .u8 8, .int .i64 1, .int .i64 4] 24))
  have HF3 := Lib.hid (HF2.out.alloc (.cells #[.int .u8 8, .int .i64 1, .int .i64 4] 24))
  have HT3 := Lib.hid (TK.alloc_new w2 8 1 4)
  clear HA2 HF2
  go_wp2_with fail
  refine (C3.out _ (bthen HB1.out HA3.out)).mono ?_
  intro e w3 h3
  unfold allPost at h3
  rw [ex7_bad] at h3
  obtain ⟨v3, rfl, hb3, ho3⟩ := h3
  have HA4 := Lib.hid (bthen HA3.out hb3)
  have HF4 := Lib.hid ((HF3.out.keep hb3).alloc (.cells #[.int .i64 4, .int .i64 2] 31))
  have HT4 : RowKit.Hid (TK (w3.alloc (.cells #[.int .i64 4, .int .i64 2] 31)) w2.heap.size 8 1 4) := Lib.hid (by
    have := HT3.out.keep hb3
    unfold TK at this ⊢; rw [Below.heap_alloc _ _ _ (lt_of_block this)]; exact this)
  have HA5 := Lib.hid (HA4.out.alloc HA4.out.size (.cells #[.int .i64 4, .int .i64 2] 31))
  clear hb3 ho3 HA3 HF3 HT3
  obtain ⟨x10, x11, x12, x30⟩ := HX.out _ HA5.out
  have f0 := HF4.out.c0; have f1 := HF4.out.c1
  have t0 := HT4.out.c0; have t1 := HT4.out.c1; have t2 := HT4.out.c2
  go_wp2_with fail
  show Q (.returned (.bool true)) _
  exact HQ.out _ (bthen HB1.out HA5.out)
end Go.Proofs.YtcnkcnalabjhgaaGreatDoor
