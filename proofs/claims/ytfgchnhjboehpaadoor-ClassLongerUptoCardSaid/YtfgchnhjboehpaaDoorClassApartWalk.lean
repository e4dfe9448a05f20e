/- The statement ClassApart, walked: the call returns true. -/
import Derived.Test.YtfgchnhjboehpaaDoorLaw02
namespace Go.Proofs.YtfgchnhjboehpaaDoor
open Go.RowKit
theorem apart_ranges : ∀ p ∈ letterRanges, ∀ q ∈ digitRanges, (p.2 < q.1 ∨ q.2 < p.1) ∧ 33 ≤ p.1 ∧ 33 ≤ q.1 := by decide +kernel
theorem inR_ex {l : List (Nat × Nat)} {r : Int} (h : inR l r = true) : ∃ p ∈ l, (p.1 : Int) ≤ r ∧ r ≤ (p.2 : Int) := by
  unfold inR at h
  rw [List.any_eq_true] at h
  obtain ⟨p, hp, h⟩ := h
  simp at h
  exact ⟨p, hp, h⟩
theorem letter_digit {r : Int} (h1 : letter r = true) : digit r = false ∧ blank r = false := by
  unfold letter at h1
  obtain ⟨p, hp, h1, h2⟩ := inR_ex h1
  have hq := apart_ranges p hp
  constructor
  · cases h : digit r
    · rfl
    · unfold digit at h
      obtain ⟨q, hqm, g1, g2⟩ := inR_ex h
      have := hq q hqm
      omega
  · have := hq (0x30, 0x39) (by decide)
    unfold blank
    simp; omega
theorem digit_blank {r : Int} (h1 : digit r = true) : blank r = false := by
  unfold digit at h1
  obtain ⟨p, hp, h1, h2⟩ := inR_ex h1
  have := apart_ranges (0x41, 0x5A) (by decide) p hp
  unfold blank
  simp; omega
theorem base_blank (r : Int) : base r < 0 ∨ (blank r = false ∧ base r < 16) := by
  unfold base blank
  simp
  repeat' split
  all_goals omega
set_option maxRecDepth 100000 in
set_option maxHeartbeats 4000000 in
theorem ClassApart_walk (r : Int) (hr : (Lit.int .i32 r).wf = true) (w : World) (_ : True) (hT : Tabs w) :
    Calls Tryd.prog 14 #[.int .i32 r] w fun e w' => e = .returned (.bool true) ∧ Below w.heap.size w w' := by
  have hb := bounds_i32 hr
  have C1 := Lib.hid (fun w => class_Letter r w)
  have C3 := Lib.hid (fun w => class_Digit r (by omega) w)
  have C5 := Lib.hid (fun w => class_Blank r w)
  have C7 := Lib.hid (fun w => class_Base r (by omega) w)
  have h1 := @letter_digit r
  have h2 := @digit_blank r
  have h3 := base_blank r
  generalize letter r = x1 at *
  generalize digit r = x2 at *
  generalize blank r = x3 at *
  generalize base r = x4 at *
  clear hr
  have key : (x1 = true ∧ x2 = false ∧ x3 = false) ∨ (x1 = false ∧ x2 = true ∧ x3 = false) ∨ (x1 = false ∧ x2 = false ∧ x3 = true) ∨ (x1 = false ∧ x2 = false ∧ x3 = false) := by
    cases x1 <;> cases x2 <;> cases x3 <;> simp_all
  clear h1 h2
  rcases key with ⟨rfl, rfl, rfl⟩ | ⟨rfl, rfl, rfl⟩ | ⟨rfl, rfl, rfl⟩ | ⟨rfl, rfl, rfl⟩
  all_goals
    by_cases h4 : x4 < 0
    all_goals
      first
      | (exfalso; rcases h3 with h3 | ⟨h3, _⟩ <;> first | omega | cases h3; done)
      | skip
  all_goals
    have h5 : x4 < 0 ∨ x4 < 16 := by omega
    clear h3
    go_enter Tryd.func14, Tryd.ntmps14
    go_wp2_with fail
    refine (C1.out _).mono ?_; rintro e w1 ⟨rfl, hb1⟩
    go_wp2_with fail
    refine (C3.out _).mono ?_; rintro e w2 ⟨rfl, rfl⟩
    go_wp2_with fail
    refine (C5.out _).mono ?_; rintro e w2 ⟨rfl, rfl⟩
    go_wp2_with fail
    refine (law02_fixed _ (hT.below hb1)).mono ?_; rintro e w3 ⟨rfl, hb3⟩
    go_wp2_with (first | (go_at_call 41; refine (C7.out _).mono ?_; rintro e w4 ⟨rfl, rfl⟩) | (go_at_call 39; refine (C5.out _).mono ?_; rintro e w4 ⟨rfl, rfl⟩))
    go_ret
    exact ⟨ret_bool (by first | rfl | (simp; omega)), bthen hb1 hb3⟩
end Go.Proofs.YtfgchnhjboehpaaDoor
