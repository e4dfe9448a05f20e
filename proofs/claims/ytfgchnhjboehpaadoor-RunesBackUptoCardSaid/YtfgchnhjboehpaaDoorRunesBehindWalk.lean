/- The statement RunesBehind, walked: the call returns true. -/
import Derived.Test.YtfgchnhjboehpaaDoorLaw01
import Derived.Test.YtfgchnhjboehpaaDoorRunesBadWalk
import Derived.Test.YtfgchnhjboehpaaDoorU8b
namespace Go.Proofs.YtfgchnhjboehpaaDoor
open Go.RowKit

theorem ints_append (a b : List Nat) : ints (a ++ b) = ints a ++ ints b := by simp [ints]
set_option maxHeartbeats 4000000 in
theorem RunesBehind_good (s : ByteArray) (hs : s.size ≤ 1048576) (t : ByteArray) (ht : t.size ≤ 1048576) (w : World) (hT : Tabs w) (b1 : bad s < 0) (b2 : bad t < 0) :
    Calls Tryd.prog 6 #[.string s, .string t] w fun e w' => e = .returned (.bool true) ∧ Below w.heap.size w w' := by
  have b3 := bad_append b1 b2
  have e3 := chars_append (t := t) b1
  have hb3 : bad (s ++ t) = -1 := by have := bad_range (s ++ t); omega
  have C1 := Lib.hid (fun w hT => runes_All s w hT b1 (by omega))
  have C2 := Lib.hid (fun w hT => runes_All t w hT b2 (by omega))
  have C3 := Lib.hid (fun w hT => runes_All (s ++ t) w hT b3 (by rw [ByteArray.size_append]; omega))
  have C4 := Lib.hid (fun w hT => runes_Bad (s ++ t) w hT)
  rw [e3, runeVals_ints, List.length_append] at C3
  rw [hb3] at C4
  have l1 := chars_length s; have l2 := chars_length t
  rw [runeVals_ints] at C1 C2
  rw [ints_append] at C3
  rw [← ints_length] at l1 l2
  rw [← ints_length (chars s)] at C1; rw [← ints_length (chars t)] at C2; rw [← ints_length (chars s), ← ints_length (chars t)] at C3
  clear b1 b2 b3 e3 hb3
  generalize ints (chars s) = A at *
  generalize ints (chars t) = B at *
  go_enter Tryd.func6, Tryd.ntmps6
  go_wp2_with fail
  refine (C1.out _ hT).mono ?_; rintro e w1 ⟨v1, rfl, hb1, hown1⟩
  go_wp2_with fail
  refine (C2.out _ (hT.below hb1)).mono ?_; rintro e w2 ⟨v2, rfl, hb2, hown2⟩
  have hb12 := bthen hb1 hb2
  go_wp2_with fail
  refine (C3.out _ (hT.below hb12)).mono ?_; rintro e w3 ⟨v3, rfl, hb3, hown3⟩
  have hb13 := bthen hb12 hb3
  go_wp2_with fail
  refine (law01_fixed _ (hT.below hb13)).mono ?_; rintro e w4 ⟨rfl, hb4⟩
  have hb14 := bthen hb13 hb4
  have R1 := Lib.hid ((RowInts.of_owns hown1).below (bthen (bthen hb2 hb3) hb4))
  have R2 := Lib.hid ((RowInts.of_owns hown2).below (bthen hb3 hb4))
  have R3 := Lib.hid ((RowInts.of_owns (l := A ++ B) hown3).below hb4)
  clear hown1 hown2 hown3
  obtain ⟨a1, cap1, rfl, hc1, hcell1⟩ := R1.out.open'
  obtain ⟨a2, cap2, rfl, hc2, hcell2⟩ := R2.out.open'
  obtain ⟨a3, cap3, rfl, hc3, hcell3⟩ := R3.out.open'
  have H1 := Lib.hid hcell1; have H2 := Lib.hid hcell2; have H3 := Lib.hid hcell3
  rw [List.length_append] at *
  clear hcell1 hcell2 hcell3
  have hne : (((A.length + B.length : Nat) : Int) != (A.length : Int) + (B.length : Int)) = false := by simp
  go_wp2_with fail
  refine (C4.out _ (hT.below hb14)).mono ?_; rintro e w5 ⟨rfl, hb5⟩
  have hb15 := bthen hb14 hb5
  go_wp2_with fail
  go_loopw [11] (fun i wr => ∃ k : Nat, k ≤ A.length + B.length ∧ i = .int .i64 k ∧ Below w4.heap.size w4 wr) (fun i _ => A.length + B.length - (intOf i).toNat)
  case atStart => exact ⟨0, Nat.zero_le _, rfl, hb5⟩
  case round =>
    obtain ⟨k, hk, rfl, hb⟩ := hrel
    by_cases hlt : k < A.length + B.length
    · have hkk : (k : Int) < (A.length : Int) + (B.length : Int) := by omega
      obtain ⟨x3, o3, rfl, hx3, hc3'⟩ := H3.out (by rw [List.length_append]; omega)
      have h3 := (hb.cell (p := ⟨x3, o3 + k, none⟩) hx3).trans (hc3' k (by rw [List.length_append]; omega))
      by_cases hka : k < A.length
      · obtain ⟨x1, o1, rfl, hx1, hc1'⟩ := H1.out (by omega)
        have h1 := (hb.cell (p := ⟨x1, o1 + k, none⟩) hx1).trans (hc1' k hka)
        rw [List.getElem_append_left hka] at h3
        have hd1 : decide (k < A.length) = true := by simpa using hka
        have hd2 : decide (A.length ≤ k) = false := by simp; omega
        have hki : (k : Int) < (A.length : Int) := by omega
        clear hc1' hc3'
        generalize A[k] = x at *
        go_wp2_with fail
        go_quiet (fail)
        go_wp2_with fail
        go_roundw
        case rel => exact ⟨k + 1, by omega, by go_num, below_drewN hb _⟩
        case measure => simp [intOf]; omega
      · obtain ⟨x2, o2, rfl, hx2, hc2'⟩ := H2.out (by omega)
        have h2 := (hb.cell (p := ⟨x2, o2 + (k - A.length), none⟩) hx2).trans (hc2' (k - A.length) (by omega))
        rw [List.getElem_append_right (by omega)] at h3
        have hd1 : decide (k < A.length) = false := by simpa using hka
        have hd2 : decide (A.length ≤ k) = true := by simp; omega
        have hki : (A.length : Int) ≤ (k : Int) := by omega
        have f1 : IntKind.i64.wrap ((k : Int) - (A.length : Int)) = (k : Int) - (A.length : Int) := IntWalk.i64_in _ (by omega)
        have f2 : 0 ≤ (k : Int) - (A.length : Int) := by omega
        have f3 : ((k : Int) - (A.length : Int)).toNat = k - A.length := by omega
        have f4 : (k : Int) - (A.length : Int) < (B.length : Int) := by omega
        clear hc2' hc3'
        generalize B[k - A.length] = x at *
        go_wp2_with fail
        go_quiet (fail)
        clear f1 f2 f3 f4
        go_wp2_with fail
        go_roundw
        case rel => exact ⟨k + 1, by omega, by go_num, below_drewN hb _⟩
        case measure => simp [intOf]; omega
    · go_wp2_with fail
      go_ret
      exact ⟨rfl, bthen hb14 hb⟩
theorem runes_All_any (s : ByteArray) (w : World) (hT : Tabs w) (hs : s.size ≤ 1099511627775) :
    Calls Tryd.prog 21 #[.string s] w fun e w' => ∃ v, e = .returned (.tuple #[v, .bool (decide (bad s < 0))]) ∧ Below w.heap.size w w' := by
  by_cases h : bad s < 0
  · refine (runes_All s w hT h hs).mono ?_
    rintro e w' ⟨v, rfl, hb, _⟩
    exact ⟨v, by simp [h], hb⟩
  · refine (runes_All_bad s w hT (by omega)).mono ?_
    rintro e w' ⟨rfl, hb⟩
    exact ⟨.slice none 0 0, by simp [h], hb⟩
set_option maxHeartbeats 4000000 in
theorem RunesBehind_walk (s : ByteArray) (hs : s.size ≤ 1048576) (t : ByteArray) (ht : t.size ≤ 1048576) (w : World) (hT : Tabs w) :
    Calls Tryd.prog 6 #[.string s, .string t] w fun e w' => e = .returned (.bool true) ∧ Below w.heap.size w w' := by
  by_cases b1 : bad s < 0
  · by_cases b2 : bad t < 0
    · exact RunesBehind_good s hs t ht w hT b1 b2
    · have hb2 : 0 ≤ bad t := by omega
      have C1 := Lib.hid (fun w hT => runes_All_any s w hT (by omega))
      have C2 := Lib.hid (fun w hT => runes_All_any t w hT (by omega))
      have C3 := Lib.hid (fun w hT => runes_All_any (s ++ t) w hT (by rw [ByteArray.size_append]; omega))
      have C4 := Lib.hid (fun w hT => runes_Bad t w hT)
      rw [decide_eq_true b1] at C1
      rw [decide_eq_false b2] at C2
      generalize decide (bad (s ++ t) < 0) = z at *
      generalize bad t = bt at *
      clear b1 b2
      go_enter Tryd.func6, Tryd.ntmps6
      go_wp2_with fail
      refine (C1.out _ hT).mono ?_; rintro e w1 ⟨v1, rfl, hb1⟩
      go_wp2_with fail
      refine (C2.out _ (hT.below hb1)).mono ?_; rintro e w2 ⟨v2, rfl, hb2⟩
      have hb12 := bthen hb1 hb2
      go_wp2_with fail
      refine (C3.out _ (hT.below hb12)).mono ?_; rintro e w3 ⟨v3, rfl, hb3⟩
      have hb13 := bthen hb12 hb3
      go_wp2_with fail
      refine (law01_fixed _ (hT.below hb13)).mono ?_; rintro e w4 ⟨rfl, hb4⟩
      have hb14 := bthen hb13 hb4
      go_wp2_with fail
      refine (law01_fixed _ (hT.below hb14)).mono ?_; rintro e w5 ⟨rfl, hb5⟩
      have hb15 := bthen hb14 hb5
      go_wp2_with fail
      refine (C4.out _ (hT.below hb15)).mono ?_; rintro e w6 ⟨rfl, hb6⟩
      have hb16 := bthen hb15 hb6
      go_wp2_with fail
      go_ret
      exact ⟨rfl, hb16⟩
  · have hb1 : 0 ≤ bad s := by omega
    by_cases b2 : bad t < 0
    · have C1 := Lib.hid (fun w hT => runes_All_any s w hT (by omega))
      have C2 := Lib.hid (fun w hT => runes_All_any t w hT (by omega))
      have C3 := Lib.hid (fun w hT => runes_All_any (s ++ t) w hT (by rw [ByteArray.size_append]; omega))
      have C4 := Lib.hid (fun w hT => runes_Bad s w hT)
      rw [decide_eq_false b1] at C1
      rw [decide_eq_true b2] at C2
      generalize decide (bad (s ++ t) < 0) = z at *
      generalize bad s = bt at *
      clear b1 b2
      go_enter Tryd.func6, Tryd.ntmps6
      go_wp2_with fail
      refine (C1.out _ hT).mono ?_; rintro e w1 ⟨v1, rfl, hb1⟩
      go_wp2_with fail
      refine (C2.out _ (hT.below hb1)).mono ?_; rintro e w2 ⟨v2, rfl, hb2⟩
      have hb12 := bthen hb1 hb2
      go_wp2_with fail
      refine (C3.out _ (hT.below hb12)).mono ?_; rintro e w3 ⟨v3, rfl, hb3⟩
      have hb13 := bthen hb12 hb3
      go_wp2_with fail
      refine (law01_fixed _ (hT.below hb13)).mono ?_; rintro e w4 ⟨rfl, hb4⟩
      have hb14 := bthen hb13 hb4
      go_wp2_with fail
      refine (law01_fixed _ (hT.below hb14)).mono ?_; rintro e w5 ⟨rfl, hb5⟩
      have hb15 := bthen hb14 hb5
      go_wp2_with fail
      refine (C4.out _ (hT.below hb15)).mono ?_; rintro e w6 ⟨rfl, hb6⟩
      have hb16 := bthen hb15 hb6
      go_wp2_with fail
      go_ret
      exact ⟨rfl, hb16⟩
    · have hb2 : 0 ≤ bad t := by omega
      have C1 := Lib.hid (fun w hT => runes_All_any s w hT (by omega))
      have C2 := Lib.hid (fun w hT => runes_All_any t w hT (by omega))
      have C3 := Lib.hid (fun w hT => runes_All_any (s ++ t) w hT (by rw [ByteArray.size_append]; omega))
      have C4 := Lib.hid (fun w hT => runes_Bad s w hT)
      have C5 := Lib.hid (fun w hT => runes_Bad t w hT)
      rw [decide_eq_false b1] at C1
      rw [decide_eq_false b2] at C2
      generalize decide (bad (s ++ t) < 0) = z at *
      generalize bad s = bs at *
      generalize bad t = bt at *
      clear b1 b2
      go_enter Tryd.func6, Tryd.ntmps6
      go_wp2_with fail
      refine (C1.out _ hT).mono ?_; rintro e w1 ⟨v1, rfl, hb1⟩
      go_wp2_with fail
      refine (C2.out _ (hT.below hb1)).mono ?_; rintro e w2 ⟨v2, rfl, hb2⟩
      have hb12 := bthen hb1 hb2
      go_wp2_with fail
      refine (C3.out _ (hT.below hb12)).mono ?_; rintro e w3 ⟨v3, rfl, hb3⟩
      have hb13 := bthen hb12 hb3
      go_wp2_with fail
      refine (law01_fixed _ (hT.below hb13)).mono ?_; rintro e w4 ⟨rfl, hb4⟩
      have hb14 := bthen hb13 hb4
      go_wp2_with fail
      refine (law01_fixed _ (hT.below hb14)).mono ?_; rintro e w5 ⟨rfl, hb5⟩
      have hb15 := bthen hb14 hb5
      go_wp2_with fail
      refine (C4.out _ (hT.below hb15)).mono ?_; rintro e w6 ⟨rfl, hb6⟩
      have hb16 := bthen hb15 hb6
      go_wp2_with fail
      refine (C5.out _ (hT.below hb16)).mono ?_; rintro e w7 ⟨rfl, hb7⟩
      have hb17 := bthen hb16 hb7
      go_wp2_with fail
      go_ret
      exact ⟨rfl, hb17⟩
end Go.Proofs.YtfgchnhjboehpaaDoor
