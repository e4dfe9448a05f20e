/- Layer 7: the reference's Clean, walked. -/
import Derived.Test.YtcnkcnalabjhgaaGreatDoorRef01
import Derived.Test.YtcnkcnalabjhgaaGreatDoorScanP
namespace Go.Proofs.YtcnkcnalabjhgaaGreatDoor
set_option linter.all false
open Go.RowKit

set_option maxRecDepth 100000 in
set_option maxHeartbeats 4000000 in
theorem ref_Clean07 (s : ByteArray) (hs : s.size ≤ 9223372036854775807) (w : World) :
    Calls Tryz.prog 20 #[.string s] w fun e w' => e = .returned (.int .i64 (clean s)) ∧ Below w.heap.size w w' := by
  have HQ : RowKit.Hid (∀ w' n, clean s = n → Below w.heap.size w w' → (fun (e : Ending) w' => e = .returned (.int .i64 (clean s)) ∧ Below w.heap.size w w') (.returned (.int .i64 n)) w') := Lib.hid fun w' n h h2 => ⟨by rw [h], h2⟩
  generalize (fun (e : Ending) w' => e = .returned (.int .i64 (clean s)) ∧ Below w.heap.size w w') = Q at *
  have HCL : RowKit.Hid (clean s = cleanZ s 0) := Lib.hid (by unfold clean; rfl)
  have CR := Lib.hid (fun (i : Nat) w => ref_Read s (i : Int) w (by omega))
  go_enter Tryz.func20, Tryz.ntmps20
  go_wp2_with fail
  go_loopw [3] (fun v wr => ∃ i : Nat, v = .int .i64 i ∧ i ≤ s.size ∧ clean s = cleanZ s i ∧ Below w.heap.size w wr) (fun v _ => s.size - (intOf v).toNat)
  case atStart => exact ⟨0, rfl, Nat.zero_le _, HCL.out, Below.refl _ _⟩
  case round =>
    obtain ⟨i, rfl, hi, hcl, hb⟩ := hrel
    have HC := Lib.hid hcl
    have HB := Lib.hid hb
    clear hcl hb
    by_cases hlt : i < s.size
    · have hlt' : (i : Int) < s.size := by omega
      have CRi := CR.out i wr
      rw [rdI_nat] at CRi
      have HBad : RowKit.Hid (badHere s i = (decide ((rd s i).2 = 0) || decide ((rd s i).1 = 0) || (decide ((rd s i).1 = 65279) && decide (0 < i)))) := Lib.hid (by unfold badHere; rfl)
      have HStep := Lib.hid (@clean_step s i hlt)
      have HBd := Lib.hid (@clean_bad s i hlt)
      have hrw := rd_width s i
      generalize rd s i = d at *
      obtain ⟨r, n⟩ := d
      simp only [] at *
      have CRh := Lib.hid CRi
      clear CRi
      by_cases hn0 : n = 0
      · subst hn0
        have HC0 : RowKit.Hid (clean s = (i : Int)) := Lib.hid (by rw [HC.out]; exact HBd.out (by rw [HBad.out]; rfl))
        go_wp2_with fail
        refine CRh.out.mono ?_
        rintro e w2 ⟨rfl, hb2⟩
        have HB2 := Lib.hid (bthen HB.out hb2)
        clear hb2
        go_wp2_with fail
        show Q (.returned (.int .i64 (i : Int))) _
        exact HQ.out _ _ HC0.out HB2.out
      · have hnb : ((n : Int) == 0) = false := by rw [beq_eq_false_iff_ne]; omega
        have hnn : ¬ (n : Int) = 0 := by omega
        by_cases hr0 : r = 0
        · subst hr0
          have HC0 : RowKit.Hid (clean s = (i : Int)) := Lib.hid (by rw [HC.out]; exact HBd.out (by rw [HBad.out]; simp))
          go_wp2_with fail
          refine CRh.out.mono ?_
          rintro e w2 ⟨rfl, hb2⟩
          have HB2 := Lib.hid (bthen HB.out hb2)
          clear hb2
          go_wp2_with fail
          show Q (.returned (.int .i64 (i : Int))) _
          exact HQ.out _ _ HC0.out HB2.out
        · have hrb : ((r : Int) == 0) = false := by rw [beq_eq_false_iff_ne]; omega
          have hrn : ¬ (r : Int) = 0 := by omega
          by_cases hm : r = 65279 ∧ 0 < i
          · obtain ⟨rfl, hi0⟩ := hm
            have hi0' : (0 : Int) < i := by omega
            have HC0 : RowKit.Hid (clean s = (i : Int)) := Lib.hid (by rw [HC.out]; exact HBd.out (by rw [HBad.out]; simp [hi0]))
            go_wp2_with fail
            refine CRh.out.mono ?_
            rintro e w2 ⟨rfl, hb2⟩
            have HB2 := Lib.hid (bthen HB.out hb2)
            clear hb2
            go_wp2_with fail
            show Q (.returned (.int .i64 (i : Int))) _
            exact HQ.out _ _ HC0.out HB2.out
          · have hok : badHere s i = false := by
              rw [HBad.out]
              simp only [Bool.or_eq_false_iff, Bool.and_eq_false_iff, decide_eq_false_iff_not]
              exact ⟨⟨hn0, hr0⟩, by omega⟩
            have HC0 : RowKit.Hid (clean s = cleanZ s (i + n)) := Lib.hid (by rw [HC.out]; exact HStep.out hok)
            have hwi : IntKind.i64.wrap ((i : Int) + n) = ((i + n : Nat) : Int) := by rw [IntKind.wrap_i64]; omega
            have hin : i + n ≤ s.size := by omega
            have HN0 := Lib.hid hn0
            clear hok hr0 hn0
            by_cases hr6 : r = 65279
            · have hi0 : ¬ (0 : Int) < i := by omega
              subst hr6
              clear hm
              go_wp2_with fail
              refine CRh.out.mono ?_
              rintro e w2 ⟨rfl, hb2⟩
              have HB2 := Lib.hid (bthen HB.out hb2)
              clear hb2
              go_wp2_with fail
              go_roundw
              case rel => exact ⟨i + n, by go_num, hin, HC0.out, HB2.out⟩
              case measure => simp [intOf]; have := HN0.out; omega
            · have hr6b : ((r : Int) == 65279) = false := by rw [beq_eq_false_iff_ne]; omega
              have hr6n : ¬ (r : Int) = 65279 := by omega
              clear hm hr6
              go_wp2_with fail
              refine CRh.out.mono ?_
              rintro e w2 ⟨rfl, hb2⟩
              have HB2 := Lib.hid (bthen HB.out hb2)
              clear hb2
              go_wp2_with fail
              go_roundw
              case rel => exact ⟨i + n, by go_num, hin, HC0.out, HB2.out⟩
              case measure => simp [intOf]; have := HN0.out; omega
    · have hlt' : ¬ (i : Int) < s.size := by omega
      have HC0 : RowKit.Hid (clean s = -1) := Lib.hid (by rw [HC.out]; exact clean_end hlt)
      go_wp2_with fail
      show Q (.returned (.int .i64 (-1))) _
      exact HQ.out _ _ HC0.out HB.out
end Go.Proofs.YtcnkcnalabjhgaaGreatDoor
