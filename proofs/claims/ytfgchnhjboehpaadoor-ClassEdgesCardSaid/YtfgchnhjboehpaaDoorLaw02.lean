/- The statements' helper 'fixed' of layer 2, walked. -/
import Derived.Test.YtfgchnhjboehpaaDoorClassName
namespace Go.Proofs.YtfgchnhjboehpaaDoor
open Go.RowKit

theorem f2a : letter 65 = true := by decide +kernel
theorem f2b : letter 945 = true := by decide +kernel
theorem f2c : letter 215 = false := by decide +kernel
theorem f2d : digit 1641 = true := by decide +kernel
theorem f2e : base 102 = 15 := by decide +kernel
theorem f2f : word ⟨#[114, 97, 110, 103, 101]⟩ = true := by decide +kernel
theorem f2g : name ⟨#[114, 97, 110, 103, 101]⟩ = false := by decide +kernel
theorem f2h : name ⟨#[120, 49]⟩ = true := by decide +kernel
set_option maxRecDepth 100000 in
set_option maxHeartbeats 1000000 in
theorem law02_fixed (w : World) (hT : Tabs w) :
    Calls Tryd.prog 27 #[] w fun e w' => e = .returned (.bool true) ∧ Below w.heap.size w w' := by
  have c1 := fun w => class_Letter 65 w
  have c2 := fun w => class_Letter 945 w
  have c3 := fun w => class_Letter 215 w
  have c4 := fun w => class_Digit 1641 (by omega) w
  have c5 := fun w => class_Base 102 (by omega) w
  have c6 := fun w => class_Word ⟨#[114, 97, 110, 103, 101]⟩ w
  have c7 := fun w hT => class_Name ⟨#[114, 97, 110, 103, 101]⟩ w hT
  have c8 := fun w hT => class_Name ⟨#[120, 49]⟩ w hT
  rw [f2a] at c1; rw [f2b] at c2; rw [f2c] at c3; rw [f2d] at c4; rw [f2e] at c5; rw [f2f] at c6; rw [f2g] at c7; rw [f2h] at c8
  have C1 := Lib.hid c1; have C2 := Lib.hid c2; have C3 := Lib.hid c3; have C4 := Lib.hid c4; have C5 := Lib.hid c5; have C6 := Lib.hid c6; have C7 := Lib.hid c7; have C8 := Lib.hid c8
  clear c1 c2 c3 c4 c5 c6 c7 c8
  go_enter Tryd.func27, Tryd.ntmps27
  go_wp2_with fail
  refine (C1.out _).mono ?_; rintro e w1 ⟨rfl, hb1⟩
  go_wp2_with fail
  refine (C2.out _).mono ?_; rintro e w2 ⟨rfl, hb2⟩
  have hb12 := bthen hb1 hb2
  go_wp2_with fail
  refine (C3.out _).mono ?_; rintro e w3 ⟨rfl, hb3⟩
  have hb13 := bthen hb12 hb3
  go_wp2_with fail
  refine (C4.out _).mono ?_; rintro e w4 ⟨rfl, rfl⟩
  go_wp2_with fail
  refine (C5.out _).mono ?_; rintro e w4 ⟨rfl, rfl⟩
  go_wp2_with fail
  refine (C6.out _).mono ?_; rintro e w4 ⟨rfl, rfl⟩
  go_wp2_with fail
  refine (C7.out _ (hT.below hb13)).mono ?_; rintro e w4 ⟨rfl, hb4⟩
  have hb14 := bthen hb13 hb4
  go_wp2_with fail
  refine (C8.out _ (hT.below hb14)).mono ?_; rintro e w5 ⟨rfl, hb5⟩
  have hb15 := bthen hb14 hb5
  go_wp2_with fail
  go_ret
  exact ⟨rfl, hb15⟩
end Go.Proofs.YtfgchnhjboehpaaDoor
