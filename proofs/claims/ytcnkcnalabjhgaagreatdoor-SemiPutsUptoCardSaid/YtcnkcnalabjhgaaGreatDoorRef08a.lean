/- Layer 8: the reference's Ends, walked. -/
import Derived.Test.YtcnkcnalabjhgaaGreatDoorSemiP
import Derived.Test.YtcnkcnalabjhgaaGreatDoorCore
import Derived.Test.YtcnkcnalabjhgaaGreatDoorNum2
namespace Go.Proofs.YtcnkcnalabjhgaaGreatDoor
set_option linter.all false
open Go.RowKit

theorem any_comm (ws : List (List UInt8)) (t : List UInt8) : (ws.any fun w => t == w) = ws.any fun w => w == t := by
  congr 1; funext w; rw [Bool.eq_iff_iff, beq_iff_eq, beq_iff_eq]; exact eq_comm
set_option maxRecDepth 100000 in
set_option maxHeartbeats 4000000 in
theorem ref_Ends08 (k : Int) (hk : 0 ≤ k ∧ k < 256) (t : ByteArray) (w : World) :
    Calls Tryz.prog 28 #[.int .u8 k, .string t] w fun e w' => e = .returned (.bool (endsK k t)) ∧ Below w.heap.size w w' := by
  have HQ : RowKit.Hid (∀ b w', endsK k t = b → Below w.heap.size w w' → (fun (e : Ending) w' => e = .returned (.bool (endsK k t)) ∧ Below w.heap.size w w') (.returned (.bool b)) w') := Lib.hid fun b w' h h2 => ⟨by rw [h], h2⟩
  have HV : RowKit.Hid (endsK k t = if k = 1 ∨ (3 ≤ k ∧ k ≤ 7) then true else if k = 2 then endWords.any fun w => t.toList == w else if k = 8 then endSigns.any fun w => t.toList == w else false) := Lib.hid (by unfold endsK; rfl)
  have HBA : RowKit.Hid (∀ o, Below w.heap.size w (w.alloc o)) := Lib.hid fun o => (Below.refl _ _).alloc (Nat.le_refl _) o
  generalize (fun (e : Ending) w' => e = .returned (.bool (endsK k t)) ∧ Below w.heap.size w w') = Q at *
  by_cases h1 : k = 1
  · subst h1
    go_enter Tryz.func28, Tryz.ntmps28
    go_wp2_with fail
    exact HQ.out _ _ (by rw [HV.out]; rfl) (Below.refl _ _)
  · have m1 : (k == 1) = false := by rw [beq_eq_false_iff_ne]; exact h1
    by_cases h37 : 3 ≤ k ∧ k ≤ 7
    · obtain ⟨h3, h7⟩ := h37
      have HV2 : RowKit.Hid (endsK k t = true) := Lib.hid (by rw [HV.out, if_pos (Or.inr ⟨h3, h7⟩)])
      go_enter Tryz.func28, Tryz.ntmps28
      go_wp2_with fail
      exact HQ.out _ _ HV2.out (Below.refl _ _)
    · by_cases h2 : k = 2
      · subst h2
        have HV2 : RowKit.Hid (endsK 2 t = endWords.any fun w => t.toList == w) := Lib.hid (by rw [HV.out]; rfl)
        clear HV h37
        go_enter Tryz.func28, Tryz.ntmps28
        go_wp2_with fail
        go_rounds 5
        all_goals (
          show Q (.returned (.bool _)) _
          refine HQ.out _ _ ?_ (HBA.out _)
          rw [HV2.out]
          unfold endWords
          clear HQ HV2 HBA
          rw [any_comm]; simp only [List.any_cons, List.any_nil, *, Bool.true_or, Bool.or_true, Bool.or_false, Bool.false_or])
      · have m2 : (k == 2) = false := by rw [beq_eq_false_iff_ne]; exact h2
        by_cases h8 : k = 8
        · subst h8
          have HV2 : RowKit.Hid (endsK 8 t = endSigns.any fun w => t.toList == w) := Lib.hid (by rw [HV.out]; rfl)
          clear HV h37
          go_enter Tryz.func28, Tryz.ntmps28
          go_wp2_with fail
          go_rounds 6
          all_goals (
            show Q (.returned (.bool _)) _
            refine HQ.out _ _ ?_ (HBA.out _)
            rw [HV2.out]
            unfold endSigns
            clear HQ HV2 HBA
            rw [any_comm]; simp only [List.any_cons, List.any_nil, *, Bool.true_or, Bool.or_true, Bool.or_false, Bool.false_or])
        · have m8 : (k == 8) = false := by rw [beq_eq_false_iff_ne]; exact h8
          have HV2 : RowKit.Hid (endsK k t = false) := Lib.hid (by rw [HV.out, if_neg (by omega), if_neg h2, if_neg h8])
          by_cases h3 : 3 ≤ k
          · have h7 : ¬ k ≤ 7 := by omega
            clear HV h37
            go_enter Tryz.func28, Tryz.ntmps28
            go_wp2_with fail
            go_rounds 1
            show Q (.returned (.bool _)) _
            exact HQ.out _ _ HV2.out (Below.refl _ _)
          · clear HV h37
            go_enter Tryz.func28, Tryz.ntmps28
            go_wp2_with fail
            go_rounds 1
            show Q (.returned (.bool _)) _
            exact HQ.out _ _ HV2.out (Below.refl _ _)
end Go.Proofs.YtcnkcnalabjhgaaGreatDoor
