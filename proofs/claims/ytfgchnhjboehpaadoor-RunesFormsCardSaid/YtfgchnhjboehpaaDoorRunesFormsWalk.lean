/- The statement RunesForms, walked: the call returns true. -/
import Derived.Test.YtfgchnhjboehpaaDoorLaw01
import Derived.Test.YtfgchnhjboehpaaDoorRef01
import Derived.Test.YtfgchnhjboehpaaDoorU8b
namespace Go.Proofs.YtfgchnhjboehpaaDoor
open Go.RowKit

theorem fx5 : rdI ⟨#[128]⟩ 0 = (0, 0) := by decide +kernel
theorem forms_read (r : Int) (hm : may r = true) : rdI (form r ++ ⟨#[128]⟩) 0 = (r.toNat, (form r).size) := by
  have h : rdI (form r ++ ⟨#[128]⟩) ((0 : Nat) : Int) = _ := rdI_nat _ 0
  rw [form_read _ 0 r hm (by rw [ByteArray.size_append]; omega) (fun k hk => by rw [Nat.zero_add, get!_left _ _ k hk])] at h
  exact h
theorem form_le (r : Int) : (form r).size ≤ 4 := by rw [form_size]; exact formZ_length r
set_option maxHeartbeats 1000000 in
theorem RunesForms_walk (r : Int) (hr : (Lit.int .i32 r).wf = true) (w : World) (_ : True) (hT : Tabs w) :
    Calls Tryd.prog 4 #[.int .i32 r] w fun e w' => e = .returned (.bool true) ∧ Below w.heap.size w w' := by
  have hb := bounds_i32 hr
  have hw : IntKind.i64.wrap r = r := IntWalk.i64_in _ (by omega)
  have hfl := form_le r
  cases hm : may r
  · have hf := form_none hm
    have hr := fx5
    have C1 := Lib.hid (fun w => runes_Form r w)
    have C2 := Lib.hid (fun w => ref_Form r w)
    have C3 := Lib.hid (fun w hT => runes_Read (form r ++ ⟨#[128]⟩) 0 w hT)
    have C4 := Lib.hid (fun w => ref_May r w)
    rw [hf] at C1 C2 C3
    rw [hm] at C4
    have e1 : (ByteArray.empty ++ ⟨#[128]⟩ : ByteArray) = ⟨#[128]⟩ := by decide +kernel
    rw [e1, fx5] at C3
    clear hf hr hm e1 hfl
    go_enter Tryd.func4, Tryd.ntmps4
    go_wp2_with fail
    refine (C1.out _).mono ?_; rintro e w' ⟨rfl, rfl⟩
    go_wp2_with fail
    refine (law01_fixed _ hT).mono ?_; rintro e w1 ⟨rfl, hb1⟩
    go_wp2_with fail
    refine (C2.out _).mono ?_; rintro e w2 ⟨rfl, hb2⟩
    have hb3 := bthen hb1 hb2
    go_wp2_with fail
    refine (C3.out _ (hT.below hb3)).mono ?_; rintro e w4 ⟨rfl, hb4⟩
    have hb5 := bthen hb3 hb4
    go_wp2_with fail
    refine (C4.out _).mono ?_; rintro e w' ⟨rfl, rfl⟩
    go_wp2_with fail
    go_ret
    exact ⟨rfl, hb5⟩
  · have hp := form_pos hm
    have hne : ((form r).toList == []) = false := by
      rw [beq_eq_false_iff_ne]
      intro e
      have h1 : (form r).toList.length = 0 := by rw [e]; rfl
      rw [ByteArray.toList_eq, ← size_data] at h1
      omega
    have hne2 : (form r).toList.isEmpty = false := by
      cases h : (form r).toList with
      | nil => rw [h] at hne; simp at hne
      | cons _ _ => rfl
    have C1 := Lib.hid (fun w => runes_Form r w)
    have C2 := Lib.hid (fun w => ref_Form r w)
    have C3 := Lib.hid (fun w hT => runes_Read (form r ++ ⟨#[128]⟩) 0 w hT)
    rw [forms_read r hm] at C3
    have h0 := ((may_iff r).1 hm).1
    have HE := Lib.hid (show ((r.toNat : Nat) : Int) = r by omega)
    simp only [] at C3
    rw [HE.out] at C3
    clear hm
    generalize form r = f at *
    go_enter Tryd.func4, Tryd.ntmps4
    go_wp2_with fail
    refine (C1.out _).mono ?_; rintro e w' ⟨rfl, rfl⟩
    go_wp2_with fail
    refine (law01_fixed _ hT).mono ?_; rintro e w1 ⟨rfl, hb1⟩
    go_wp2_with fail
    refine (C2.out _).mono ?_; rintro e w2 ⟨rfl, hb2⟩
    have hb3 := bthen hb1 hb2
    go_wp2_with fail
    refine (C3.out _ (hT.below hb3)).mono ?_; rintro e w4 ⟨rfl, hb4⟩
    have hb5 := bthen hb3 hb4
    go_wp2_with fail
    go_ret
    exact ⟨rfl, hb5⟩
end Go.Proofs.YtfgchnhjboehpaaDoor
