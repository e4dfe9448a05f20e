/- Layer 6: the law's own examples, walked. -/
import Derived.Test.YtnnfkdjmpbgkaaaDoorRef06h
namespace Go.Proofs.YtnnfkdjmpbgkaaaDoor
set_option linter.all false
open Go.RowKit
attribute [local irreducible] wpStill

theorem ex_scan : begun ⟨#[120, 39, 97, 39]⟩ 1 = (6, 4, ⟨#[97]⟩, 0) := by
  have h : single ⟨#[120, 39, 97, 39]⟩ 2 = some (4, [97]) := by decide +kernel
  have := begun_single (s := ⟨#[120, 39, 97, 39]⟩) (i := 1) (by decide) (by decide)
  rw [h] at this
  exact this
theorem ex_rune : begun ⟨#[39, 92, 51, 55, 55, 39]⟩ 0 = (6, 6, ⟨#[195, 191]⟩, 0) := by
  have h : single ⟨#[39, 92, 51, 55, 55, 39]⟩ 1 = some (6, [195, 191]) := by decide +kernel
  have := begun_single (s := ⟨#[39, 92, 51, 55, 55, 39]⟩) (i := 0) (by decide) (by decide)
  rw [h] at this
  exact this
theorem ex_str : begun ⟨#[34, 92, 51, 55, 55, 34]⟩ 0 = (7, 6, ⟨#[255]⟩, 0) := by
  have h : body ⟨#[34, 92, 51, 55, 55, 34]⟩ 1 = some (6, [255]) := by
    have h1 : item ⟨#[34, 92, 51, 55, 55, 34]⟩ 1 34 = some (4, [255]) := by decide +kernel
    rw [body_item (by decide) (by decide), h1, Option.bind_some, body_mark (by decide) (by decide)]
    rfl
  have := begun_body (s := ⟨#[34, 92, 51, 55, 55, 34]⟩) (i := 0) (by decide) (by decide)
  rw [h] at this
  exact this
theorem ex_rune_value : value ⟨#[39, 92, 51, 55, 55, 39]⟩ = (⟨#[195, 191]⟩, 0) := by unfold value; rw [ex_rune]; rfl
theorem ex_str_value : value ⟨#[34, 92, 51, 55, 55, 34]⟩ = (⟨#[255]⟩, 0) := by unfold value; rw [ex_str]; rfl
theorem ex_quote : quote ⟨#[97, 10, 255]⟩ = ⟨#[34, 97, 92, 110, 92, 120, 102, 102, 34]⟩ := by unfold quote; decide +kernel
set_option maxRecDepth 100000 in
set_option maxHeartbeats 4000000 in
theorem law06_fixed (w : World) (hT : Tabs w) (hM : MaxC w) :
    Calls Tryd.prog 12 #[] w fun e w' => e = .returned (.bool true) ∧ Below w.heap.size w w' := by
  have HQ : RowKit.Hid (∀ w', Below w.heap.size w w' → (fun (e : Ending) w' => e = .returned (.bool true) ∧ Below w.heap.size w w') (.returned (.bool true)) w') := Lib.hid fun w' h => ⟨rfl, h⟩
  generalize (fun (e : Ending) w' => e = .returned (.bool true) ∧ Below w.heap.size w w') = Q at *
  have C1 := Lib.hid (quoted_Scan ⟨#[120, 39, 97, 39]⟩ 1 w hT hM (by decide))
  have C2 := Lib.hid (fun w' (hb : Below w.heap.size w w') => quoted_Value ⟨#[39, 92, 51, 55, 55, 39]⟩ w' (hT.below hb) (hM.below hb) (by decide))
  have C3 := Lib.hid (fun w' (hb : Below w.heap.size w w') => quoted_Value ⟨#[34, 92, 51, 55, 55, 34]⟩ w' (hT.below hb) (hM.below hb) (by decide))
  have C4 := Lib.hid (fun w' => quoted_Quote ⟨#[97, 10, 255]⟩ w' (by decide))
  go_enter Tryd.func12, Tryd.ntmps12
  go_wp2_with fail
  refine C1.out.mono ?_
  intro e w1 h1
  unfold scanPost at h1
  rw [ex_scan] at h1
  obtain ⟨rfl, hb1⟩ := h1
  have HB1 := Lib.hid hb1
  clear hb1
  go_wp2_with fail
  refine (C2.out _ HB1.out).mono ?_
  intro e w2 h2
  unfold valuePost at h2
  rw [ex_rune_value] at h2
  obtain ⟨rfl, hb2⟩ := h2
  have HB2 := Lib.hid (bthen HB1.out hb2)
  clear hb2
  go_wp2_with fail
  refine (C3.out _ HB2.out).mono ?_
  intro e w3 h3
  unfold valuePost at h3
  rw [ex_str_value] at h3
  obtain ⟨rfl, hb3⟩ := h3
  have HB3 := Lib.hid (bthen HB2.out hb3)
  clear hb3
  go_wp2_with fail
  refine (C4.out _).mono ?_
  rw [ex_quote]
  rintro e w4 ⟨rfl, hb4⟩
  have HB4 := Lib.hid (bthen HB3.out hb4)
  clear hb4
  go_wp2_with fail
  show Q (.returned (.bool true)) _
  exact HQ.out _ HB4.out
end Go.Proofs.YtnnfkdjmpbgkaaaDoor
