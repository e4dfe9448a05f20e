/- The statements' own helpers of layer 1, walked. -/
import Derived.Test.YtfgchnhjboehpaaDoorRunes
namespace Go.Proofs.YtfgchnhjboehpaaDoor
open Go.RowKit

theorem fx1 : rdI ⟨#[97, 195, 169]⟩ 1 = (233, 2) := by decide +kernel
theorem fx2 : rdI ⟨#[97, 195, 169]⟩ 2 = (0, 0) := by decide +kernel
theorem fx3 : form 8364 = ⟨#[226, 130, 172]⟩ := by decide +kernel
theorem fx4 : bad ⟨#[97, 255]⟩ = 1 := by decide +kernel
theorem law01_fixed (w : World) (hT : Tabs w) :
    Calls Tryd.prog 17 #[] w fun e w' => e = .returned (.bool true) ∧ Below w.heap.size w w' := by
  have c1 := fun w hT => runes_Read ⟨#[97, 195, 169]⟩ 1 w hT
  have c2 := fun w hT => runes_Read ⟨#[97, 195, 169]⟩ 2 w hT
  have c3 := fun w => runes_Form 8364 w
  have c4 := fun w hT => runes_Bad ⟨#[97, 255]⟩ w hT
  rw [fx1] at c1; rw [fx2] at c2; rw [fx3] at c3; rw [fx4] at c4
  have C1 := Lib.hid c1; have C2 := Lib.hid c2; have C3 := Lib.hid c3; have C4 := Lib.hid c4
  clear c1 c2 c3 c4
  go_enter Tryd.func17, Tryd.ntmps17
  go_wp2_with fail
  refine (C1.out _ hT).mono ?_; rintro e w1 ⟨rfl, hb1⟩
  have hT1 := hT.below hb1
  go_wp2_with fail
  refine (C2.out _ hT1).mono ?_; rintro e w2 ⟨rfl, hb2⟩
  have hT2 := hT1.below hb2
  go_wp2_with fail
  refine (C3.out _).mono ?_; rintro e w' ⟨rfl, rfl⟩
  go_wp2_with fail
  refine (C4.out _ hT2).mono ?_; rintro e w3 ⟨rfl, hb3⟩
  go_wp2_with fail
  go_ret
  exact ⟨rfl, (hb1.trans (hb2.mono hb1.size)).trans (hb3.mono (hb1.trans (hb2.mono hb1.size)).size)⟩
end Go.Proofs.YtfgchnhjboehpaaDoor
