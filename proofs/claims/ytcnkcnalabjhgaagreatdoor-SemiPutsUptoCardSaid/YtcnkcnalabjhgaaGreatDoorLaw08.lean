/- Layer 8: the law's own examples, walked. -/
import Derived.Test.YtcnkcnalabjhgaaGreatDoorSemi
namespace Go.Proofs.YtcnkcnalabjhgaaGreatDoor
set_option linter.all false
open Go.RowKit

theorem ex8_a : semiAll ⟨#[97, 10, 98]⟩ = ([(1, 0, 1), (9, 1, 1), (1, 2, 3), (9, 3, 3)], 0, 0) := by decide +kernel
theorem ex8_b : semiAll ⟨#[97, 32, 43, 10, 98, 59]⟩ = ([(1, 0, 1), (8, 2, 3), (1, 4, 5), (9, 5, 6)], 0, 0) := by decide +kernel
theorem ex8_c : endsK 8 ⟨#[125]⟩ = true := by decide +kernel
theorem ex8_d : endsK 2 ⟨#[103, 111]⟩ = false := by decide +kernel
set_option maxRecDepth 100000 in
set_option maxHeartbeats 4000000 in
theorem law08_fixed (w : World) (hT : Tabs w) (hM : MaxC w) :
    Calls Tryz.prog 14 #[] w fun e w' => e = .returned (.bool true) ∧ Below w.heap.size w w' := by
  have HQ : RowKit.Hid (∀ w', Below w.heap.size w w' → (fun (e : Ending) w' => e = .returned (.bool true) ∧ Below w.heap.size w w') (.returned (.bool true)) w') := Lib.hid fun w' h => ⟨rfl, h⟩
  generalize (fun (e : Ending) w' => e = .returned (.bool true) ∧ Below w.heap.size w w') = Q at *
  have C1 := Lib.hid (semi_Of ⟨#[97, 10, 98]⟩ (by decide) w hT hM)
  have C2 := Lib.hid (fun w' (hb : Below w.heap.size w w') => semi_Of ⟨#[97, 32, 43, 10, 98, 59]⟩ (by decide) w' (hT.below hb) (hM.below hb))
  have C3 : RowKit.Hid (∀ w, Calls Tryz.prog 23 #[.int .u8 8, .string ⟨#[125]⟩] w fun e w' => e = .returned (.bool true) ∧ w = w') := Lib.hid fun w => by
    have := semi_Ends 8 (by omega) ⟨#[125]⟩ w; rwa [ex8_c] at this
  have C4 : RowKit.Hid (∀ w, Calls Tryz.prog 23 #[.int .u8 2, .string ⟨#[103, 111]⟩] w fun e w' => e = .returned (.bool false) ∧ w = w') := Lib.hid fun w => by
    have := semi_Ends 2 (by omega) ⟨#[103, 111]⟩ w; rwa [ex8_d] at this
  go_enter Tryz.func14, Tryz.ntmps14
  go_wp2_with fail
  refine C1.out.mono ?_
  intro e w1 h1
  unfold allPost at h1
  rw [ex8_a] at h1
  obtain ⟨v1, rfl, hb1, ho1⟩ := h1
  obtain ⟨b, cap, hv, hcap, hbl, hcell⟩ := tok_row ho1 (by decide)
  subst hv
  have x10 : w1.cell? ⟨b, 3, none⟩ = some (.int .u8 9) := (hcell 1 (by decide)).1
  have x11 : w1.cell? ⟨b, 4, none⟩ = some (.int .i64 1) := (hcell 1 (by decide)).2.1
  have x12 : w1.cell? ⟨b, 5, none⟩ = some (.int .i64 1) := (hcell 1 (by decide)).2.2
  have hcap4 : (4 : Int) ≤ cap := by simp at hcap; omega
  have HX : RowKit.Hid (∀ W, Below w1.heap.size w1 W → W.cell? ⟨b, 3, none⟩ = some (.int .u8 9) ∧ W.cell? ⟨b, 4, none⟩ = some (.int .i64 1) ∧ W.cell? ⟨b, 5, none⟩ = some (.int .i64 1)) := Lib.hid fun W h =>
    ⟨by rw [h.cell (p := ⟨b, 3, none⟩) hbl]; exact x10, by rw [h.cell (p := ⟨b, 4, none⟩) hbl]; exact x11, by rw [h.cell (p := ⟨b, 5, none⟩) hbl]; exact x12⟩
  have HB1 := Lib.hid hb1
  have HF1 : RowKit.Hid (FK (w1.alloc (.cells #[.int .i64 0, .int .i64 0] 31)) w1.heap.size 0 0) := Lib.hid (by unfold FK; exact heap_alloc_new _ _)
  have HA1 : RowKit.Hid (Below w1.heap.size w1 (w1.alloc (.cells #[.int .i64 0, .int .i64 0] 31))) := Lib.hid ((Below.refl _ _).alloc (Nat.le_refl _) _)
  clear hb1 ho1 hcell C1 x10 x11 x12 hcap
  go_wp2_with fail
  refine (C2.out _ (HB1.out.alloc HB1.out.size _)).mono ?_
  intro e w2 h2
  unfold allPost at h2
  rw [ex8_b] at h2
  obtain ⟨v2, rfl, hb2, ho2⟩ := h2
  obtain ⟨b2, cap2, hv2, _, _, _⟩ := tok_row ho2 (by decide)
  subst hv2
  have HA2 := Lib.hid (bthen HA1.out hb2)
  have HF2 := Lib.hid ((HF1.out.keep hb2).alloc (.cells #[.int .i64 0, .int .i64 0] 31))
  have HA3 := Lib.hid (HA2.out.alloc HA2.out.size (.cells #[.int .i64 0, .int .i64 0] 31))
  clear hb2 ho2 HA1 HF1
  obtain ⟨x10, x11, x12⟩ := HX.out _ HA3.out
  have f0 := HF2.out.c0; have f1 := HF2.out.c1
  go_wp2_with fail
  refine (C3.out _).mono ?_
  rintro e w4 ⟨rfl, rfl⟩
  go_wp2_with fail
  refine (C4.out _).mono ?_
  rintro e w4 ⟨rfl, rfl⟩
  go_wp2_with fail
  show Q (.returned (.bool true)) _
  exact HQ.out _ (bthen HB1.out HA3.out)
end Go.Proofs.YtcnkcnalabjhgaaGreatDoor
