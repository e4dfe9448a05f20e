/- The reference's functions of layer 2, walked. -/
import Derived.Test.YtelfobnmiphdnaaGreatDoorClass2
import Derived.Test.YtelfobnmiphdnaaGreatDoorRefBase
import Derived.Test.YtelfobnmiphdnaaGreatDoorRef01
import Derived.Test.YtelfobnmiphdnaaGreatDoorScanP
import Derived.Test.YtelfobnmiphdnaaGreatDoorRef05
import Derived.Test.YtelfobnmiphdnaaGreatDoorLexP
import Derived.Test.YtelfobnmiphdnaaGreatDoorSemiP
import Derived.Test.YtelfobnmiphdnaaGreatDoorCore
import Derived.Test.YtelfobnmiphdnaaGreatDoorNum2
import Derived.Test.YtelfobnmiphdnaaGreatDoorRef05g
import Derived.Test.YtelfobnmiphdnaaGreatDoorRef06
import Derived.Test.YtelfobnmiphdnaaGreatDoorScan6
import Derived.Test.YtelfobnmiphdnaaGreatDoorScan7
import Derived.Test.YtelfobnmiphdnaaGreatDoorTokRow
import Derived.Test.YtelfobnmiphdnaaGreatDoorSemi
import Derived.Deep.RegionHeld3
namespace Go.Proofs.YtelfobnmiphdnaaGreatDoor
open Go.RowKit

def digitCells (k : IntKind) : Array Value := (digitRanges.flatMap fun p => [Value.int k p.1, Value.int k p.2]).toArray
def wordVals : Array Value := (words.map fun l => Value.string ⟨l.toArray⟩).toArray
/-- A literal slice, as the last block. -/
theorem row_lit (w : World) (C : Array Value) (t : TypeId) (n sz : Nat) (h : C.size = n * sz) : Row (w.alloc (.cells C t)) (.slice (some ⟨w.heap.size, 0, none⟩) n n) n sz C.toList :=
  ⟨by simpa using h, some ⟨w.heap.size, 0, none⟩, n, rfl, Nat.le_refl _, by simp, fun _ => ⟨w.heap.size, 0, rfl, by simp, fun i _ => by rw [Nat.zero_add, World.cell?_alloc_at _ _ _ _ rfl]; simp⟩⟩
set_option maxRecDepth 100000 in
theorem ref_Letters (w : World) :
    Calls Tryz.prog 44 #[] w fun e w' => e = .returned (.slice (some ⟨w.heap.size, 0, none⟩) 33 33) ∧ w' = w.alloc (.cells (letterCells .i64) 81) := by
  go_enter Tryz.func44, Tryz.ntmps44
  go_upto_region 1 with (fail)
  refine wp_region_lit ?_
  refine wpList_run_w 35 (w.alloc (.cells (letterCells .i64) 81)) (by kernel_rfl) (by kernel_rfl) ?_
  refine wpList_nil ?_
  generalize hA : actOf _ _ _ _ = A
  have hA0 : A.tmps.getD 0 undef = .slice (some ⟨w.heap.size, 0, none⟩) 33 33 := by rw [← hA]; kernel_rfl
  have hAd : A.defers = [] := by rw [← hA]; kernel_rfl
  clear hA
  obtain ⟨tm, df⟩ := A
  simp only [] at hA0 hAd
  subst hAd
  rename_i hK
  refine hK _ _ (wp_ret ?_)
  refine bodyPost_ret (results_tmp rfl _ _ _) rfl ?_
  exact ⟨by rw [hA0], rfl⟩
set_option maxRecDepth 100000 in
theorem ref_Digits (w : World) :
    Calls Tryz.prog 64 #[] w fun e w' => e = .returned (.slice (some ⟨w.heap.size, 0, none⟩) 5 5) ∧ w' = w.alloc (.cells (digitCells .i64) 81) := by
  go_enter Tryz.func64, Tryz.ntmps64
  go_upto_region 1 with (fail)
  refine wp_region_lit ?_
  refine wpList_run_w 7 (w.alloc (.cells (digitCells .i64) 81)) (by kernel_rfl) (by kernel_rfl) ?_
  refine wpList_nil ?_
  generalize hA : actOf _ _ _ _ = A
  have hA0 : A.tmps.getD 0 undef = .slice (some ⟨w.heap.size, 0, none⟩) 5 5 := by rw [← hA]; kernel_rfl
  have hAd : A.defers = [] := by rw [← hA]; kernel_rfl
  clear hA
  obtain ⟨tm, df⟩ := A
  simp only [] at hA0 hAd
  subst hAd
  rename_i hK
  refine hK _ _ (wp_ret ?_)
  refine bodyPost_ret (results_tmp rfl _ _ _) rfl ?_
  exact ⟨by rw [hA0], rfl⟩
set_option maxRecDepth 100000 in
theorem ref_Words (w : World) :
    Calls Tryz.prog 45 #[] w fun e w' => e = .returned (.slice (some ⟨w.heap.size, 0, none⟩) 25 25) ∧ w' = w.alloc (.cells wordVals 9) := by
  go_enter Tryz.func45, Tryz.ntmps45
  go_upto_region 1 with (fail)
  refine wp_region_lit ?_
  refine wpList_run_w 2 (w.alloc (.cells wordVals 9)) (by kernel_rfl) (by kernel_rfl) ?_
  refine wpList_nil ?_
  generalize hA : actOf _ _ _ _ = A
  have hA0 : A.tmps.getD 0 undef = .slice (some ⟨w.heap.size, 0, none⟩) 25 25 := by rw [← hA]; kernel_rfl
  have hAd : A.defers = [] := by rw [← hA]; kernel_rfl
  clear hA
  obtain ⟨tm, df⟩ := A
  simp only [] at hA0 hAd
  subst hAd
  rename_i hK
  refine hK _ _ (wp_ret ?_)
  refine bodyPost_ret (results_tmp rfl _ _ _) rfl ?_
  exact ⟨by rw [hA0], rfl⟩

def rangeVals (l : List (Nat × Nat)) : List Value := l.flatMap fun p => [Value.int .i64 p.1, Value.int .i64 p.2]
theorem rangeVals_at (l : List (Nat × Nat)) (i : Nat) (hi : i < l.length) : (rangeVals l)[i * 2]? = some (.int .i64 (frm l i)) ∧ (rangeVals l)[i * 2 + 1]? = some (.int .i64 (too l i)) := by
  induction l generalizing i with
  | nil => simp at hi
  | cons p l ih =>
    cases i with
    | zero => exact ⟨rfl, rfl⟩
    | succ i =>
      have := ih i (by simpa using hi)
      have e1 : (i + 1) * 2 = i * 2 + 2 := by omega
      rw [e1]
      exact this
theorem rangeVals_length (l : List (Nat × Nat)) : (rangeVals l).length = l.length * 2 := by
  induction l with
  | nil => rfl
  | cons p l ih => simp only [rangeVals, List.flatMap_cons, List.length_append, List.length_cons, List.length_nil] at *; omega
set_option maxRecDepth 100000 in
set_option maxHeartbeats 1000000 in
theorem ref_in (r : Int) (v : Value) (l : List (Nat × Nat)) (w : World) (hv : Row w v l.length 2 (rangeVals l)) (hl : l.length ≤ 1000000) (hb0 : ∀ i, i < l.length → frm l i ≤ 1114112 ∧ too l i ≤ 1114112) :
    Calls Tryz.prog 43 #[.int .i64 r, v] w fun e w' => e = .returned (.bool (inR l r)) ∧ w = w' := by
  obtain ⟨_, a, cap, rfl, hc, _, hcell⟩ := hv
  have HC := Lib.hid hcell
  have HB := Lib.hid hb0
  clear hcell hb0
  go_enter Tryz.func43, Tryz.ntmps43
  go_wp2_with fail
  go_loop [5] (fun i => ∃ k : Nat, i = .int .i64 k ∧ k ≤ l.length ∧ (∀ j, j < k → r < (frm l j : Int) ∨ (too l j : Int) < r)) (fun i => l.length - (intOf i).toNat)
  case atStart => exact ⟨0, rfl, Nat.zero_le _, fun j h => by omega⟩
  case round =>
    obtain ⟨k, rfl, hk, hno⟩ := hrel
    have HN := Lib.hid hno
    clear hno
    by_cases hlt : k < l.length
    · obtain ⟨b, off, rfl, hbl, hcl⟩ := HC.out (by omega)
      have hv := rangeVals_at l k hlt
      have h0 : w.cell? ⟨b, off + k * 2, none⟩ = some (.int .i64 (frm l k)) := by rw [hcl _ (by omega)]; exact hv.1
      have h1 : w.cell? ⟨b, off + k * 2 + 1, none⟩ = some (.int .i64 (too l k)) := by rw [Nat.add_assoc, hcl _ (by omega)]; exact hv.2
      have hyes := inR_at l r k hlt
      have hkl : (k : Int) < l.length := by omega
      have hbk := HB.out k hlt
      clear hcl hv
      generalize hf : frm l k = f at *
      generalize ht : too l k = t at *
      have HF := Lib.hid hf; have HT := Lib.hid ht
      have HY := Lib.hid hyes
      clear hf ht hyes
      by_cases g1 : (f : Int) ≤ r
      · by_cases g2 : r ≤ (t : Int)
        · go_wp2_with fail
          go_ret
          exact ⟨ret_bool (HY.out g1 g2).symm, rfl⟩
        · go_wp2_with fail
          go_round
          case rel => exact ⟨k + 1, by go_num, by omega, fun j hj => by
            by_cases e : j = k
            · subst e; have := HT.out; omega
            · exact HN.out j (by omega)⟩
          case measure => simp [intOf]; omega
      · go_wp2_with fail
        go_round
        case rel => exact ⟨k + 1, by go_num, by omega, fun j hj => by
          by_cases e : j = k
          · subst e; have := HF.out; omega
          · exact HN.out j (by omega)⟩
        case measure => simp [intOf]; omega
    · have hkl : (l.length : Int) ≤ k := by omega
      have HX := Lib.hid (inR_none l r fun i hi => HN.out i (by omega))
      go_wp2_with fail
      go_ret
      exact ⟨ret_bool HX.out.symm, rfl⟩
theorem letterCells_vals : (letterCells .i64).toList = rangeVals letterRanges := rfl
theorem digitCells_vals : (digitCells .i64).toList = rangeVals digitRanges := rfl
theorem digits_small : ∀ i, i < 5 → frm digitRanges i ≤ 1114112 ∧ too digitRanges i ≤ 1114112 := by decide +kernel
theorem letters_small' : ∀ i, i < 33 → frm letterRanges i ≤ 1114112 ∧ too letterRanges i ≤ 1114112 := by decide +kernel
theorem ref_Letter (r : Int) (w : World) :
    Calls Tryz.prog 33 #[.int .i64 r] w fun e w' => e = .returned (.bool (letter r)) ∧ Below w.heap.size w w' := by
  have hR := row_lit w (letterCells .i64) 81 33 2 (by decide +kernel)
  rw [letterCells_vals] at hR
  have HL := Lib.hid (show letter r = inR letterRanges r by unfold letter; rfl)
  have HI := Lib.hid (ref_in r _ letterRanges _ hR (by decide) letters_small')
  have HC := Lib.hid (ref_Letters w)
  have HB := Lib.hid ((Below.refl _ w).alloc (Nat.le_refl _) (.cells (letterCells .i64) 81))
  clear hR
  generalize inR letterRanges r = x at *
  generalize letterCells .i64 = C at *
  go_enter Tryz.func33, Tryz.ntmps33
  go_wp2_with fail
  refine HC.out.mono ?_; rintro e w1 ⟨rfl, rfl⟩
  go_wp2_with fail
  refine HI.out.mono ?_; rintro e w1 ⟨rfl, rfl⟩
  go_wp2_with fail
  go_ret
  exact ⟨ret_bool HL.out.symm, HB.out⟩
theorem ref_Digit (r : Int) (w : World) :
    Calls Tryz.prog 42 #[.int .i64 r] w fun e w' => e = .returned (.bool (digit r)) ∧ Below w.heap.size w w' := by
  have hR := row_lit w (digitCells .i64) 81 5 2 (by decide +kernel)
  rw [digitCells_vals] at hR
  have HL := Lib.hid (show digit r = inR digitRanges r by unfold digit; rfl)
  have HI := Lib.hid (ref_in r _ digitRanges _ hR (by decide) digits_small)
  have HC := Lib.hid (ref_Digits w)
  have HB := Lib.hid ((Below.refl _ w).alloc (Nat.le_refl _) (.cells (digitCells .i64) 81))
  clear hR
  generalize inR digitRanges r = x at *
  generalize digitCells .i64 = C at *
  go_enter Tryz.func42, Tryz.ntmps42
  go_wp2_with fail
  refine HC.out.mono ?_; rintro e w1 ⟨rfl, rfl⟩
  go_wp2_with fail
  refine HI.out.mono ?_; rintro e w1 ⟨rfl, rfl⟩
  go_wp2_with fail
  go_ret
  exact ⟨ret_bool HL.out.symm, HB.out⟩
theorem ref_Blank (r : Int) (w : World) :
    Calls Tryz.prog 30 #[.int .i64 r] w fun e w' => e = .returned (.bool (blank r)) ∧ w = w' := by
  go_enter Tryz.func30, Tryz.ntmps30
  go_wp2_with fail
  all_goals go_ret
  all_goals (refine ⟨ret_bool ?_, rfl⟩; rw [Bool.eq_iff_iff]; unfold blank; simp; try omega)
theorem wordVals_at (i : Nat) (hi : i < 25) : wordVals[i]? = some (.string ⟨(words.getD i []).toArray⟩) := by
  have h : i < words.length := hi
  unfold wordVals
  simp only [List.getElem?_toArray, List.getElem?_map, List.getElem?_eq_getElem h, Option.map_some, List.getD_eq_getElem?_getD, Option.getD_some]
theorem word_yes (s : ByteArray) (i : Nat) (hi : i < 25) (h : (words.getD i [] == s.toList) = true) : word s = true := by
  have h2 : i < words.length := hi
  unfold word
  rw [List.any_eq_true]
  refine ⟨words[i], List.getElem_mem h2, ?_⟩
  rw [List.getD_eq_getElem?_getD, List.getElem?_eq_getElem h2, Option.getD_some, beq_iff_eq] at h
  rw [beq_iff_eq, h]
theorem word_no (s : ByteArray) (h : ∀ i, i < 25 → (words.getD i [] == s.toList) = false) : word s = false := by
  unfold word
  rw [List.any_eq_false]
  intro x hx
  obtain ⟨i, hi, rfl⟩ := List.getElem_of_mem hx
  have := h i hi
  rw [List.getD_eq_getElem?_getD, List.getElem?_eq_getElem hi, Option.getD_some, beq_eq_false_iff_ne] at this
  simp only [beq_iff_eq]
  exact fun e => this e.symm
set_option maxRecDepth 100000 in
set_option maxHeartbeats 1000000 in
theorem ref_Word (s : ByteArray) (w : World) :
    Calls Tryz.prog 34 #[.string s] w fun e w' => e = .returned (.bool (word s)) ∧ Below w.heap.size w w' := by
  have HC := Lib.hid (ref_Words w)
  have HW := Lib.hid wordVals_at
  have HB := Lib.hid ((Below.refl _ w).alloc (Nat.le_refl _) (.cells wordVals 9))
  have hcell : ∀ j, (w.alloc (.cells wordVals 9)).cell? ⟨w.heap.size, j, none⟩ = wordVals[j]? := fun j => World.cell?_alloc_at _ _ _ _ rfl
  have HCL := Lib.hid hcell
  clear hcell
  generalize wordVals = C at *
  go_enter Tryz.func34, Tryz.ntmps34
  go_wp2_with fail
  refine HC.out.mono ?_; rintro e w1 ⟨rfl, rfl⟩
  generalize w.alloc (.cells C 9) = W at *
  go_wp2_with fail
  go_loop [4] (fun i => ∃ k : Nat, i = .int .i64 k ∧ k ≤ 25 ∧ (∀ j, j < k → (words.getD j [] == s.toList) = false)) (fun i => 25 - (intOf i).toNat)
  case atStart => exact ⟨0, rfl, Nat.zero_le _, fun j h => by omega⟩
  case round =>
    obtain ⟨k, rfl, hk, hno⟩ := hrel
    have HN := Lib.hid hno
    clear hno
    by_cases hlt : k < 25
    · have h0 : W.cell? ⟨w.heap.size, k, none⟩ = some (.string ⟨(words.getD k []).toArray⟩) := by rw [HCL.out, HW.out k hlt]
      have hyes := word_yes s k hlt
      have hnn : ∀ _ : (words.getD k [] == s.toList) = false, ∀ j, j < k + 1 → (words.getD j [] == s.toList) = false := fun hx j hj => by
        by_cases e : j = k
        · subst e; exact hx
        · exact HN.out j (by omega)
      generalize words.getD k [] = x at *
      have HY := Lib.hid hyes; have HNN := Lib.hid hnn
      clear hyes hnn
      go_wp2_with fail
      · have hx : (x == s.toList) = true := by assumption
        go_ret
        exact ⟨ret_bool (HY.out hx).symm, HB.out⟩
      · have hx : (x == s.toList) = false := by assumption
        go_round
        case rel => exact ⟨k + 1, by go_num, by omega, HNN.out hx⟩
        case measure => simp [intOf]; omega
    · have HX := Lib.hid (word_no s fun i hi => HN.out i (by omega))
      go_wp2_with fail
      go_ret
      exact ⟨ret_bool HX.out.symm, HB.out⟩
end Go.Proofs.YtelfobnmiphdnaaGreatDoor
namespace Go.Proofs.YtelfobnmiphdnaaGreatDoor
set_option linter.all false
open Go.RowKit

set_option maxRecDepth 100000 in
set_option maxHeartbeats 4000000 in
theorem ref_Clean07 (s : ByteArray) (hs : s.size ≤ 9223372036854775807) (w : World) :
    Calls Tryz.prog 24 #[.string s] w fun e w' => e = .returned (.int .i64 (clean s)) ∧ Below w.heap.size w w' := by
  have HQ : RowKit.Hid (∀ w' n, clean s = n → Below w.heap.size w w' → (fun (e : Ending) w' => e = .returned (.int .i64 (clean s)) ∧ Below w.heap.size w w') (.returned (.int .i64 n)) w') := Lib.hid fun w' n h h2 => ⟨by rw [h], h2⟩
  generalize (fun (e : Ending) w' => e = .returned (.int .i64 (clean s)) ∧ Below w.heap.size w w') = Q at *
  have HCL : RowKit.Hid (clean s = cleanZ s 0) := Lib.hid (by unfold clean; rfl)
  have CR := Lib.hid (fun (i : Nat) w => ref_Read s (i : Int) w (by omega))
  go_enter Tryz.func24, Tryz.ntmps24
  go_wp2_with fail
  go_loopw [3] (fun v wr => ∃ i : Nat, v = .int .i64 i ∧ i ≤ s.size ∧ clean s = cleanZ s i ∧ Below w.heap.size w wr) (fun v _ => s.size - (intOf v).toNat)
  case atStart => exact ⟨0, rfl, Nat.zero_le _, HCL.out, Below.refl _ _⟩
  case round =>
    obtain ⟨i, rfl, hi, hcl, hb⟩ := hrel
    have HC := Lib.hid hcl
    have HB := Lib.hid hb
    clear hcl hb
    by_cases hlt : i < s.size
    · have hlt' : (i : Int) < s.size := by omega
      have CRi := CR.out i wr
      rw [rdI_nat] at CRi
      have HBad : RowKit.Hid (badHere s i = (decide ((rd s i).2 = 0) || decide ((rd s i).1 = 0) || (decide ((rd s i).1 = 65279) && decide (0 < i)))) := Lib.hid (by unfold badHere; rfl)
      have HStep := Lib.hid (@clean_step s i hlt)
      have HBd := Lib.hid (@clean_bad s i hlt)
      have hrw := rd_width s i
      generalize rd s i = d at *
      obtain ⟨r, n⟩ := d
      simp only [] at *
      have CRh := Lib.hid CRi
      clear CRi
      by_cases hn0 : n = 0
      · subst hn0
        have HC0 : RowKit.Hid (clean s = (i : Int)) := Lib.hid (by rw [HC.out]; exact HBd.out (by rw [HBad.out]; rfl))
        go_wp2_with fail
        refine CRh.out.mono ?_
        rintro e w2 ⟨rfl, hb2⟩
        have HB2 := Lib.hid (bthen HB.out hb2)
        clear hb2
        go_wp2_with fail
        show Q (.returned (.int .i64 (i : Int))) _
        exact HQ.out _ _ HC0.out HB2.out
      · have hnb : ((n : Int) == 0) = false := by rw [beq_eq_false_iff_ne]; omega
        have hnn : ¬ (n : Int) = 0 := by omega
        by_cases hr0 : r = 0
        · subst hr0
          have HC0 : RowKit.Hid (clean s = (i : Int)) := Lib.hid (by rw [HC.out]; exact HBd.out (by rw [HBad.out]; simp))
          go_wp2_with fail
          refine CRh.out.mono ?_
          rintro e w2 ⟨rfl, hb2⟩
          have HB2 := Lib.hid (bthen HB.out hb2)
          clear hb2
          go_wp2_with fail
          show Q (.returned (.int .i64 (i : Int))) _
          exact HQ.out _ _ HC0.out HB2.out
        · have hrb : ((r : Int) == 0) = false := by rw [beq_eq_false_iff_ne]; omega
          have hrn : ¬ (r : Int) = 0 := by omega
          by_cases hm : r = 65279 ∧ 0 < i
          · obtain ⟨rfl, hi0⟩ := hm
            have hi0' : (0 : Int) < i := by omega
            have HC0 : RowKit.Hid (clean s = (i : Int)) := Lib.hid (by rw [HC.out]; exact HBd.out (by rw [HBad.out]; simp [hi0]))
            go_wp2_with fail
            refine CRh.out.mono ?_
            rintro e w2 ⟨rfl, hb2⟩
            have HB2 := Lib.hid (bthen HB.out hb2)
            clear hb2
            go_wp2_with fail
            show Q (.returned (.int .i64 (i : Int))) _
            exact HQ.out _ _ HC0.out HB2.out
          · have hok : badHere s i = false := by
              rw [HBad.out]
              simp only [Bool.or_eq_false_iff, Bool.and_eq_false_iff, decide_eq_false_iff_not]
              exact ⟨⟨hn0, hr0⟩, by omega⟩
            have HC0 : RowKit.Hid (clean s = cleanZ s (i + n)) := Lib.hid (by rw [HC.out]; exact HStep.out hok)
            have hwi : IntKind.i64.wrap ((i : Int) + n) = ((i + n : Nat) : Int) := by rw [IntKind.wrap_i64]; omega
            have hin : i + n ≤ s.size := by omega
            have HN0 := Lib.hid hn0
            clear hok hr0 hn0
            by_cases hr6 : r = 65279
            · have hi0 : ¬ (0 : Int) < i := by omega
              subst hr6
              clear hm
              go_wp2_with fail
              refine CRh.out.mono ?_
              rintro e w2 ⟨rfl, hb2⟩
              have HB2 := Lib.hid (bthen HB.out hb2)
              clear hb2
              go_wp2_with fail
              go_roundw
              case rel => exact ⟨i + n, by go_num, hin, HC0.out, HB2.out⟩
              case measure => simp [intOf]; have := HN0.out; omega
            · have hr6b : ((r : Int) == 65279) = false := by rw [beq_eq_false_iff_ne]; omega
              have hr6n : ¬ (r : Int) = 65279 := by omega
              clear hm hr6
              go_wp2_with fail
              refine CRh.out.mono ?_
              rintro e w2 ⟨rfl, hb2⟩
              have HB2 := Lib.hid (bthen HB.out hb2)
              clear hb2
              go_wp2_with fail
              go_roundw
              case rel => exact ⟨i + n, by go_num, hin, HC0.out, HB2.out⟩
              case measure => simp [intOf]; have := HN0.out; omega
    · have hlt' : ¬ (i : Int) < s.size := by omega
      have HC0 : RowKit.Hid (clean s = -1) := Lib.hid (by rw [HC.out]; exact clean_end hlt)
      go_wp2_with fail
      show Q (.returned (.int .i64 (-1))) _
      exact HQ.out _ _ HC0.out HB.out
end Go.Proofs.YtelfobnmiphdnaaGreatDoor
namespace Go.Proofs.YtelfobnmiphdnaaGreatDoor
set_option linter.all false
open Go.RowKit

/-- Does a text stand at a place? -/
def hasAt (s : ByteArray) (i : Nat) (t : ByteArray) : Bool := decide (i + t.size ≤ s.size) && decide (s.extract i (i + t.size) = t)
theorem toList_beq (a b : ByteArray) : (a.toList == b.toList) = decide (a = b) := by
  rw [Bool.eq_iff_iff, beq_iff_eq, decide_eq_true_eq, ByteArray.toList_eq, ByteArray.toList_eq]
  constructor
  · intro h; exact ByteArray.ext (Array.ext' h)
  · intro h; rw [h]
set_option maxRecDepth 100000 in
set_option maxHeartbeats 4000000 in
theorem ref_has (s : ByteArray) (i : Nat) (t : ByteArray) (hi : i ≤ s.size) (hs : s.size ≤ 2147483647) (ht : t.size ≤ 2147483647) (w : World) :
    Calls Tryz.prog 32 #[.string s, .int .i64 (i : Int), .string t] w fun e w' => e = .returned (.bool (hasAt s i t)) ∧ w = w' := by
  have HQ : RowKit.Hid (∀ x, hasAt s i t = x → (fun (e : Ending) w' => e = .returned (.bool (hasAt s i t)) ∧ w = w') (.returned (.bool x)) w) := Lib.hid fun x h => ⟨by rw [h], rfl⟩
  have HV : RowKit.Hid (hasAt s i t = (decide (i + t.size ≤ s.size) && decide (s.extract i (i + t.size) = t))) := Lib.hid rfl
  generalize (fun (e : Ending) w' => e = .returned (.bool (hasAt s i t)) ∧ w = w') = Q at *
  have hw1 : IntKind.i64.wrap ((s.size : Int) - (i : Int)) = ((s.size - i : Nat) : Int) := by rw [IntKind.wrap_i64]; omega
  have hi0 : (0 : Int) ≤ i := by omega
  by_cases h : i + t.size ≤ s.size
  · have h' : (t.size : Int) ≤ ((s.size - i : Nat) : Int) := by omega
    have h2 : (t.size : Int) ≤ (s.size : Int) - i := by omega
    have h3 : t.size ≤ s.size - i := by omega
    have hw2 : IntKind.i64.wrap ((i : Int) + (t.size : Int)) = ((i + t.size : Nat) : Int) := by rw [IntKind.wrap_i64]; omega
    have q1 : (i : Int) ≤ ((i + t.size : Nat) : Int) := by omega
    have q2 : ((i + t.size : Nat) : Int) ≤ s.size := by omega
    have q3 : (i : Int) + (t.size : Int) ≤ s.size := by omega
    have q4 : (i : Int) ≤ (i : Int) + t.size := by omega
    have q5 : ((i : Int) + (t.size : Int)).toNat = i + t.size := by omega
    rw [decide_eq_true h, Bool.true_and] at HV
    go_enter Tryz.func32, Tryz.ntmps32
    go_wp2_with fail
    exact HQ.out _ (by rw [HV.out, toList_beq])
  · have h' : ¬ (t.size : Int) ≤ ((s.size - i : Nat) : Int) := by omega
    have h2 : ¬ (t.size : Int) ≤ (s.size : Int) - i := by omega
    have h3 : ¬ t.size ≤ s.size - i ∨ i = s.size := by omega
    rw [decide_eq_false h] at HV
    have HF := Lib.hid (HV.out.trans (Bool.false_and _))
    clear h3
    go_enter Tryz.func32, Tryz.ntmps32
    go_wp2_with fail
    exact HQ.out _ HF.out
theorem blankB_four {c : Nat} (h : blankB c = true) : c = 32 ∨ c = 9 ∨ c = 10 ∨ c = 13 := by
  unfold blankB at h; simp at h; omega
theorem blank_iff (s : ByteArray) (i : Nat) (hi : i < s.size) : (blank (rd s i).1 = true ↔ blankB (bt s i) = true) ∧ (blank (rd s i).1 = true → (rd s i).2 = 1) := by
  have key : blankB (bt s i) = true → rd s i = (bt s i, 1) ∧ blank (rd s i).1 = true := fun h => by
    have h4 := blankB_four h
    have hr := rd_ascii hi (by omega)
    refine ⟨hr, ?_⟩
    rw [hr]
    unfold blank
    simp
    omega
  refine ⟨⟨fun h => (blank_byte h).2, fun h => (key h).2⟩, fun h => ?_⟩
  rw [(key (blank_byte h).2).1]
set_option maxRecDepth 100000 in
set_option maxHeartbeats 4000000 in
theorem ref_run0 (s : ByteArray) (i : Nat) (hi : i ≤ s.size) (hs : s.size ≤ 2147483647) (w : World) :
    Calls Tryz.prog 31 #[.string s, .int .i64 (i : Int), .int .i64 0] w fun e w' => e = .returned (.int .i64 (blankTo s i : Nat)) ∧ Below w.heap.size w w' := by
  have HQ : RowKit.Hid (∀ w' (n : Nat), blankTo s i = n → Below w.heap.size w w' → (fun (e : Ending) w' => e = .returned (.int .i64 (blankTo s i : Nat)) ∧ Below w.heap.size w w') (.returned (.int .i64 (n : Nat))) w') := Lib.hid fun w' n h h2 => ⟨by rw [h], h2⟩
  have HV0 : RowKit.Hid (blankTo s i = blankTo s i) := Lib.hid rfl
  generalize (fun (e : Ending) w' => e = .returned (.int .i64 (blankTo s i : Nat)) ∧ Below w.heap.size w w') = Q at *
  generalize hV : blankTo s i = V at *
  have HV := Lib.hid hV
  have CR := Lib.hid (fun (k : Nat) w => ref_Read s (k : Int) w (by omega))
  clear HV0 hV
  go_enter Tryz.func31, Tryz.ntmps31
  go_wp2_with fail
  go_loopw [1] (fun v wr => ∃ k : Nat, v = .int .i64 k ∧ k ≤ s.size ∧ RowKit.Hid (blankTo s k = V) ∧ Below w.heap.size w wr) (fun v _ => s.size - (intOf v).toNat)
  case atStart => exact ⟨i, rfl, hi, HV, Below.refl _ _⟩
  case round =>
    obtain ⟨k, rfl, hk, HK, hb⟩ := hrel
    have HB := Lib.hid hb
    clear hb
    by_cases hlt : k < s.size
    · have hlt' : (k : Int) < s.size := by omega
      have CRk := CR.out k wr
      rw [rdI_nat] at CRk
      obtain ⟨b1, b2⟩ := blank_iff s k hlt
      have HYES : RowKit.Hid (blankB (bt s k) = true → blankTo s (k + 1) = V) := Lib.hid fun h => by rw [← HK.out]; exact (by rw [blankTo.eq_def s k, if_pos ⟨hlt, h⟩])
      have HNO : RowKit.Hid (¬ blankB (bt s k) = true → V = k) := Lib.hid fun h => by rw [← HK.out, blankTo.eq_def s k, if_neg (fun g => h g.2)]
      have hz : (rd s k).2 = 0 → ¬ blank (rd s k).1 = true := fun h g => by have := b2 g; omega
      generalize rd s k = d at *
      obtain ⟨r, n⟩ := d
      simp only [] at *
      have CRh := Lib.hid CRk
      have CB := Lib.hid (fun w => ref_Blank (r : Int) w)
      clear CRk
      by_cases hbl : blank (r : Int) = true
      · obtain rfl := b2 hbl
        have HT2 := Lib.hid (HYES.out (b1.1 hbl))
        have hwk : IntKind.i64.wrap ((k : Int) + 1) = ((k + 1 : Nat) : Int) := by rw [IntKind.wrap_i64]; omega
        rw [hbl] at CB
        clear HYES HNO hz b1 b2 hbl HK
        go_wp2_with fail
        refine CRh.out.mono ?_
        rintro e w2 ⟨rfl, hb2⟩
        have HB2 := Lib.hid (bthen HB.out hb2)
        clear hb2
        go_wp2_with fail
        refine (CB.out w2).mono ?_
        rintro e w3 ⟨rfl, rfl⟩
        go_wp2_with fail
        refine ⟨⟨k + 1, congrArg (Value.int .i64) (by omega), hlt, HT2, HB2.out⟩, ?_⟩
        simp only [intOf]
        omega
      · have HF := Lib.hid (HNO.out (fun g => hbl (b1.2 g)))
        have hbf : blank (r : Int) = false := by simpa using hbl
        rw [hbf] at CB
        clear HYES HNO hz b1 b2 hbl hbf HK
        by_cases hn : n = 0
        · subst hn
          go_wp2_with fail
          refine CRh.out.mono ?_
          rintro e w2 ⟨rfl, hb2⟩
          have HB2 := Lib.hid (bthen HB.out hb2)
          clear hb2
          go_wp2_with fail
          exact HQ.out _ _ HF.out HB2.out
        · have hnb : ((n : Int) == 0) = false := by rw [beq_eq_false_iff_ne]; omega
          go_wp2_with fail
          refine CRh.out.mono ?_
          rintro e w2 ⟨rfl, hb2⟩
          have HB2 := Lib.hid (bthen HB.out hb2)
          clear hb2
          go_wp2_with fail
          refine (CB.out w2).mono ?_
          rintro e w3 ⟨rfl, rfl⟩
          go_wp2_with fail
          exact HQ.out _ _ HF.out HB2.out
    · have hlt' : ¬ (k : Int) < s.size := by omega
      have HF : RowKit.Hid (V = k) := Lib.hid (by rw [← HK.out, blankTo.eq_def s k, if_neg (fun g => hlt g.1)])
      go_wp2_with fail
      exact HQ.out _ _ HF.out HB.out
set_option maxRecDepth 100000 in
set_option maxHeartbeats 4000000 in
theorem ref_run1 (s : ByteArray) (i : Nat) (hi : i ≤ s.size) (hs : s.size ≤ 2147483647) (w : World) :
    Calls Tryz.prog 31 #[.string s, .int .i64 (i : Int), .int .i64 1] w fun e w' => e = .returned (.int .i64 (wordTo s i : Nat)) ∧ Below w.heap.size w w' := by
  have HQ : RowKit.Hid (∀ w' (n : Nat), wordTo s i = n → Below w.heap.size w w' → (fun (e : Ending) w' => e = .returned (.int .i64 (wordTo s i : Nat)) ∧ Below w.heap.size w w') (.returned (.int .i64 (n : Nat))) w') := Lib.hid fun w' n h h2 => ⟨by rw [h], h2⟩
  generalize (fun (e : Ending) w' => e = .returned (.int .i64 (wordTo s i : Nat)) ∧ Below w.heap.size w w') = Q at *
  generalize hV : wordTo s i = V at *
  have HV := Lib.hid hV
  have CR := Lib.hid (fun (k : Nat) w => ref_Read s (k : Int) w (by omega))
  clear hV
  go_enter Tryz.func31, Tryz.ntmps31
  go_wp2_with fail
  go_loopw [1] (fun v wr => ∃ k : Nat, v = .int .i64 k ∧ k ≤ s.size ∧ RowKit.Hid (wordTo s k = V) ∧ Below w.heap.size w wr) (fun v _ => s.size - (intOf v).toNat)
  case atStart => exact ⟨i, rfl, hi, HV, Below.refl _ _⟩
  case round =>
    obtain ⟨k, rfl, hk, HK, hb⟩ := hrel
    have HB := Lib.hid hb
    clear hb
    by_cases hlt : k < s.size
    · have hlt' : (k : Int) < s.size := by omega
      have CRk := CR.out k wr
      rw [rdI_nat] at CRk
      have hwd := rd_width s k
      have HIN : RowKit.Hid (inWord s k = (decide ((rd s k).2 ≠ 0) && (letter (rd s k).1 || digit (rd s k).1))) := Lib.hid rfl
      have HYES : RowKit.Hid (inWord s k = true → wordTo s (k + (rd s k).2) = V) := Lib.hid fun h => by rw [← HK.out]; exact (by rw [wordTo.eq_def s k, dif_pos ⟨hlt, h⟩])
      have HNO : RowKit.Hid (inWord s k = false → V = k) := Lib.hid fun h => by rw [← HK.out, wordTo.eq_def s k, dif_neg (fun g => by rw [h] at g; cases g.2)]
      generalize rd s k = d at *
      obtain ⟨r, n⟩ := d
      simp only [] at *
      have CRh := Lib.hid CRk
      have CL := Lib.hid (fun w => ref_Letter (r : Int) w)
      have CD := Lib.hid (fun w => ref_Digit (r : Int) w)
      clear CRk
      by_cases hn : n = 0
      · subst hn
        have HF := Lib.hid (HNO.out (by rw [HIN.out]; rfl))
        clear HYES HNO HK
        go_wp2_with fail
        refine CRh.out.mono ?_
        rintro e w2 ⟨rfl, hb2⟩
        have HB2 := Lib.hid (bthen HB.out hb2)
        clear hb2
        go_wp2_with fail
        exact HQ.out _ _ HF.out HB2.out
      · have hnb : ((n : Int) == 0) = false := by rw [beq_eq_false_iff_ne]; omega
        have hwk : IntKind.i64.wrap ((k : Int) + (n : Int)) = ((k + n : Nat) : Int) := by rw [IntKind.wrap_i64]; omega
        have HLE : RowKit.Hid (k + n ≤ s.size) := Lib.hid (by omega)
        have HNP : RowKit.Hid (0 < n) := Lib.hid (by omega)
        rw [decide_eq_true hn, Bool.true_and] at HIN
        generalize letter (r : Int) = lt at *
        generalize digit (r : Int) = dg at *
        cases lt with
        | true =>
          have HT2 := Lib.hid (HYES.out (by rw [HIN.out]; rfl))
          clear HYES HNO HK hwd hn
          go_wp2_with fail
          refine CRh.out.mono ?_
          rintro e w2 ⟨rfl, hb2⟩
          have HB2 := Lib.hid (bthen HB.out hb2)
          clear hb2
          go_wp2_with fail
          refine (CL.out w2).mono ?_
          rintro e w3 ⟨rfl, hb3⟩
          have HB3 := Lib.hid (bthen HB2.out hb3)
          clear hb3
          go_wp2_with fail
          refine ⟨⟨k + n, congrArg (Value.int .i64) (by omega), HLE.out, HT2, HB3.out⟩, ?_⟩
          simp only [intOf]
          have := HNP.out
          omega
        | false =>
          cases dg with
          | true =>
            have HT2 := Lib.hid (HYES.out (by rw [HIN.out]; rfl))
            clear HYES HNO HK hwd hn
            go_wp2_with fail
            refine CRh.out.mono ?_
            rintro e w2 ⟨rfl, hb2⟩
            have HB2 := Lib.hid (bthen HB.out hb2)
            clear hb2
            go_wp2_with fail
            refine (CL.out w2).mono ?_
            rintro e w3 ⟨rfl, hb3⟩
            have HB3 := Lib.hid (bthen HB2.out hb3)
            clear hb3
            go_wp2_with fail
            refine (CD.out w3).mono ?_
            rintro e w4 ⟨rfl, hb4⟩
            have HB4 := Lib.hid (bthen HB3.out hb4)
            clear hb4
            go_wp2_with fail
            refine ⟨⟨k + n, congrArg (Value.int .i64) (by omega), HLE.out, HT2, HB4.out⟩, ?_⟩
            simp only [intOf]
            have := HNP.out
            omega
          | false =>
            have HF := Lib.hid (HNO.out (by rw [HIN.out]; rfl))
            clear HYES HNO HK hwd hn
            go_wp2_with fail
            refine CRh.out.mono ?_
            rintro e w2 ⟨rfl, hb2⟩
            have HB2 := Lib.hid (bthen HB.out hb2)
            clear hb2
            go_wp2_with fail
            refine (CL.out w2).mono ?_
            rintro e w3 ⟨rfl, hb3⟩
            have HB3 := Lib.hid (bthen HB2.out hb3)
            clear hb3
            go_wp2_with fail
            refine (CD.out w3).mono ?_
            rintro e w4 ⟨rfl, hb4⟩
            have HB4 := Lib.hid (bthen HB3.out hb4)
            clear hb4
            go_wp2_with fail
            exact HQ.out _ _ HF.out HB4.out
    · have hlt' : ¬ (k : Int) < s.size := by omega
      have HF : RowKit.Hid (V = k) := Lib.hid (by rw [← HK.out, wordTo.eq_def s k, dif_neg (fun g => hlt g.1)])
      go_wp2_with fail
      exact HQ.out _ _ HF.out HB.out
end Go.Proofs.YtelfobnmiphdnaaGreatDoor
namespace Go.Proofs.YtelfobnmiphdnaaGreatDoor
set_option linter.all false
open Go.RowKit

def signsR : List (List UInt8) := [[43], [45], [42], [47], [37], [38], [124], [94], [60, 60], [62, 62], [38, 94], [43, 61], [45, 61], [42, 61], [47, 61], [37, 61], [38, 61], [124, 61], [94, 61], [60, 60, 61], [62, 62, 61], [38, 94, 61], [38, 38], [124, 124], [60, 45], [43, 43], [45, 45], [61, 61], [60], [62], [61], [33], [126], [33, 61], [60, 61], [62, 61], [58, 61], [46, 46, 46], [40], [41], [91], [93], [123], [125], [44], [46], [58]]
def signsN : List (List Nat) := signsR.map fun t => t.map fun b => b.toNat
def bestStep (l : List Nat) (b : Nat) (t : List Nat) : Nat := if l.take t.length = t ∧ b < t.length then t.length else b
def bestF (l : List Nat) (T : List (List Nat)) (b : Nat) : Nat := T.foldl (bestStep l) b
theorem best_spec (l : List Nat) : ∀ (T : List (List Nat)) (b : Nat), b ≤ bestF l T b ∧ (∀ t ∈ T, l.take t.length = t → t.length ≤ bestF l T b) ∧ (bestF l T b = b ∨ ∃ t ∈ T, l.take t.length = t ∧ t.length = bestF l T b)
  | [], b => ⟨Nat.le_refl _, (by intro t ht; cases ht), Or.inl rfl⟩
  | x :: T, b => by
    obtain ⟨h1, h2, h3⟩ := best_spec l T (bestStep l b x)
    have e : bestF l (x :: T) b = bestF l T (bestStep l b x) := rfl
    rw [e]
    have hb : b ≤ bestStep l b x ∧ (l.take x.length = x → x.length ≤ bestStep l b x) ∧ (bestStep l b x = b ∨ (l.take x.length = x ∧ x.length = bestStep l b x)) := by
      unfold bestStep
      by_cases g : l.take x.length = x ∧ b < x.length
      · rw [if_pos g]; exact ⟨by omega, fun _ => Nat.le_refl _, Or.inr ⟨g.1, rfl⟩⟩
      · rw [if_neg g]; exact ⟨Nat.le_refl _, fun q => by rcases Nat.lt_or_ge b x.length with w | w; exact absurd ⟨q, w⟩ g; exact w, Or.inl rfl⟩
    refine ⟨by omega, fun t ht hp => ?_, ?_⟩
    · rcases List.mem_cons.1 ht with rfl | ht
      · have := hb.2.1 hp; omega
      · exact h2 t ht hp
    · rcases h3 with h3 | ⟨t, ht, hp, hl⟩
      · rcases hb.2.2 with g | ⟨g1, g2⟩
        · exact Or.inl (h3.trans g)
        · exact Or.inr ⟨x, List.mem_cons_self, g1, g2.trans h3.symm⟩
      · exact Or.inr ⟨t, List.mem_cons_of_mem _ ht, hp, hl⟩
theorem signsN_all : ∀ t ∈ signsN, (t.length = 1 ∧ signs1.contains t = true) ∨ (t.length = 2 ∧ signs2.contains t = true) ∨ (t.length = 3 ∧ signs3.contains t = true) := by decide +kernel
theorem signsN_of3 : ∀ t ∈ signs3, t ∈ signsN ∧ t.length = 3 := by decide +kernel
theorem signsN_of2 : ∀ t ∈ signs2, t ∈ signsN ∧ t.length = 2 := by decide +kernel
theorem signsN_of1 : ∀ t ∈ signs1, t ∈ signsN ∧ t.length = 1 := by decide +kernel
theorem best_sign (l : List Nat) : bestF l signsN 0 = signL l := by
  obtain ⟨_, h2, h3⟩ := best_spec l signsN 0
  generalize bestF l signsN 0 = r at *
  have up3 : r = 3 → signs3.contains (l.take 3) = true := fun e => by
    rcases h3 with h3 | ⟨t, ht, hp, hl⟩
    · omega
    · rcases signsN_all t ht with ⟨a, b⟩ | ⟨a, b⟩ | ⟨a, b⟩
      · omega
      · omega
      · rw [a] at hp; rw [hp]; exact b
  have up2 : r = 2 → signs2.contains (l.take 2) = true := fun e => by
    rcases h3 with h3 | ⟨t, ht, hp, hl⟩
    · omega
    · rcases signsN_all t ht with ⟨a, b⟩ | ⟨a, b⟩ | ⟨a, b⟩
      · omega
      · rw [a] at hp; rw [hp]; exact b
      · omega
  have up1 : r = 1 → signs1.contains (l.take 1) = true := fun e => by
    rcases h3 with h3 | ⟨t, ht, hp, hl⟩
    · omega
    · rcases signsN_all t ht with ⟨a, b⟩ | ⟨a, b⟩ | ⟨a, b⟩
      · rw [a] at hp; rw [hp]; exact b
      · omega
      · omega
  have hr : r ≤ 3 := by
    rcases h3 with h3 | ⟨t, ht, hp, hl⟩
    · omega
    · rcases signsN_all t ht with ⟨a, b⟩ | ⟨a, b⟩ | ⟨a, b⟩ <;> omega
  unfold signL
  by_cases c3 : signs3.contains (l.take 3) = true
  · rw [if_pos c3]
    obtain ⟨g1, g2⟩ := signsN_of3 _ (List.contains_iff_mem.1 c3)
    have := h2 _ g1 (by rw [g2])
    omega
  · rw [if_neg c3]
    have n3 : r ≠ 3 := fun e => c3 (up3 e)
    by_cases c2 : signs2.contains (l.take 2) = true
    · rw [if_pos c2]
      obtain ⟨g1, g2⟩ := signsN_of2 _ (List.contains_iff_mem.1 c2)
      have := h2 _ g1 (by rw [g2])
      omega
    · rw [if_neg c2]
      have n2 : r ≠ 2 := fun e => c2 (up2 e)
      by_cases c1 : signs1.contains (l.take 1) = true
      · rw [if_pos c1]
        obtain ⟨g1, g2⟩ := signsN_of1 _ (List.contains_iff_mem.1 c1)
        have := h2 _ g1 (by rw [g2])
        omega
      · rw [if_neg c1]
        have n1 : r ≠ 1 := fun e => c1 (up1 e)
        omega
theorem mapN_inj : ∀ (a b : List UInt8), a.map (fun x => x.toNat) = b.map (fun x => x.toNat) → a = b
  | [], [], _ => rfl
  | [], _ :: _, h => by cases h
  | _ :: _, [], h => by cases h
  | x :: a, y :: b, h => by
    simp only [List.map_cons, List.cons.injEq] at h
    rw [UInt8.toNat_inj.1 h.1, mapN_inj a b h.2]
theorem size_of (x : List UInt8) : (⟨x.toArray⟩ : ByteArray).size = x.length := by rw [size_data]
theorem has_pre (s : ByteArray) (i : Nat) (hi : i ≤ s.size) (x : List UInt8) : hasAt s i ⟨x.toArray⟩ = decide ((byts (s.extract i s.size)).take x.length = x.map fun b => b.toNat) := by
  have e1 : (byts (s.extract i s.size)).take x.length = ((s.data.toList.drop i).take x.length).map fun b => b.toNat := by
    unfold byts; rw [extract_tail, List.map_take]
  have e2 : (s.extract i (i + x.length)).data.toList = (s.data.toList.drop i).take x.length := by rw [extract_data, Nat.add_sub_cancel_left]
  unfold hasAt
  rw [size_of, e1, Bool.eq_iff_iff]
  simp only [Bool.and_eq_true, decide_eq_true_eq]
  constructor
  · rintro ⟨_, h⟩
    rw [← e2, h]
  · intro h
    have h2 := mapN_inj _ _ h
    have h3 := congrArg List.length h2
    rw [List.length_take, List.length_drop, ← size_data] at h3
    refine ⟨by omega, ?_⟩
    apply ByteArray.ext
    apply Array.ext'
    rw [e2, h2]
theorem has2 (s : ByteArray) (i : Nat) (hi : i ≤ s.size) (c d : UInt8) : hasAt s i ⟨#[c, d]⟩ = decide (i + 1 < s.size ∧ bt s i = c.toNat ∧ bt s (i + 1) = d.toNat) := by
  have := has_pre s i hi [c, d]
  rw [show (⟨[c, d].toArray⟩ : ByteArray) = ⟨#[c, d]⟩ from rfl] at this
  rw [this, Bool.eq_iff_iff, decide_eq_true_eq, decide_eq_true_eq]
  have hl : (byts (s.extract i s.size)).length = s.size - i := by rw [byts_length, ByteArray.size_extract]; omega
  have hg : ∀ j, i + j < s.size → (byts (s.extract i s.size))[j]? = some (bt s (i + j)) := fun j hj => by
    rw [byts_get _ j (by rw [ByteArray.size_extract]; omega)]
    unfold bt; rw [get!_extract s i s.size j (by omega) (Nat.le_refl _)]
  constructor
  · intro h
    have h3 := congrArg List.length h
    simp only [List.length_take, hl, List.length_cons, List.length_nil, List.length_map] at h3
    have hi2 : i + 1 < s.size := by omega
    have a0 := congrArg (fun l => l[0]?) h
    have a1 := congrArg (fun l => l[1]?) h
    simp only [List.getElem?_take, List.length_cons, List.length_nil, List.map_cons, List.map_nil, List.getElem?_cons_zero, List.getElem?_cons_succ] at a0 a1
    rw [if_pos (by omega), hg 0 (by omega)] at a0
    rw [if_pos (by omega), hg 1 (by omega)] at a1
    simp only [Option.some.injEq, Nat.add_zero] at a0 a1
    exact ⟨hi2, a0, a1⟩
  · rintro ⟨h1, h2, h3⟩
    apply List.ext_getElem?
    intro j
    rw [List.getElem?_take]
    match j with
    | 0 => rw [if_pos (by simp), hg 0 (by omega)]; simp [h2]
    | 1 => rw [if_pos (by simp), hg 1 (by omega)]; simp [h3]
    | j + 2 => rw [if_neg (by simp)]; simp
theorem best_next (l : List Nat) (k : Nat) (hk : k < 47) : bestF l (signsN.take (k + 1)) 0 = bestStep l (bestF l (signsN.take k) 0) ((signsR.getD k []).map fun b => b.toNat) := by
  have hl : signsN.length = 47 := rfl
  have hg : signsN[k]? = some ((signsR.getD k []).map fun b => b.toNat) := by
    unfold signsN
    have h2 : k < signsR.length := hk
    rw [List.getElem?_map, List.getElem?_eq_getElem h2, List.getD_eq_getElem?_getD, List.getElem?_eq_getElem h2]; rfl
  rw [List.take_succ, hg]
  unfold bestF
  rw [Option.toList_some, List.foldl_append]; rfl
def signVals : Array Value := (signsR.map fun l => Value.string ⟨l.toArray⟩).toArray
theorem signVals_at (i : Nat) (hi : i < 47) : signVals[i]? = some (.string ⟨(signsR.getD i []).toArray⟩) := by
  have h : i < signsR.length := hi
  unfold signVals
  simp only [List.getElem?_toArray, List.getElem?_map, List.getElem?_eq_getElem h, Option.map_some, List.getD_eq_getElem?_getD, Option.getD_some]
set_option maxRecDepth 100000 in
theorem ref_Signs (w : World) :
    Calls Tryz.prog 37 #[] w fun e w' => e = .returned (.slice (some ⟨w.heap.size, 0, none⟩) 47 47) ∧ w' = w.alloc (.cells signVals 9) := by
  go_enter Tryz.func37, Tryz.ntmps37
  go_upto_region 1 with (fail)
  refine wp_region_lit ?_
  refine wpList_run_w 2 (w.alloc (.cells signVals 9)) (by kernel_rfl) (by kernel_rfl) ?_
  refine wpList_nil ?_
  generalize hA : actOf _ _ _ _ = A
  have hA0 : A.tmps.getD 0 undef = .slice (some ⟨w.heap.size, 0, none⟩) 47 47 := by rw [← hA]; kernel_rfl
  have hAd : A.defers = [] := by rw [← hA]; kernel_rfl
  clear hA
  obtain ⟨tm, df⟩ := A
  simp only [] at hA0 hAd
  subst hAd
  rename_i hK
  refine hK _ _ (wp_ret ?_)
  refine bodyPost_ret (results_tmp rfl _ _ _) rfl ?_
  exact ⟨by rw [hA0], rfl⟩
end Go.Proofs.YtelfobnmiphdnaaGreatDoor
namespace Go.Proofs.YtelfobnmiphdnaaGreatDoor
set_option linter.all false
open Go.RowKit

theorem any_comm (ws : List (List UInt8)) (t : List UInt8) : (ws.any fun w => t == w) = ws.any fun w => w == t := by
  congr 1; funext w; rw [Bool.eq_iff_iff, beq_iff_eq, beq_iff_eq]; exact eq_comm
set_option maxRecDepth 100000 in
set_option maxHeartbeats 4000000 in
theorem ref_Ends08 (k : Int) (hk : 0 ≤ k ∧ k < 256) (t : ByteArray) (w : World) :
    Calls Tryz.prog 17 #[.int .u8 k, .string t] w fun e w' => e = .returned (.bool (endsK k t)) ∧ Below w.heap.size w w' := by
  have HQ : RowKit.Hid (∀ b w', endsK k t = b → Below w.heap.size w w' → (fun (e : Ending) w' => e = .returned (.bool (endsK k t)) ∧ Below w.heap.size w w') (.returned (.bool b)) w') := Lib.hid fun b w' h h2 => ⟨by rw [h], h2⟩
  have HV : RowKit.Hid (endsK k t = if k = 1 ∨ (3 ≤ k ∧ k ≤ 7) then true else if k = 2 then endWords.any fun w => t.toList == w else if k = 8 then endSigns.any fun w => t.toList == w else false) := Lib.hid (by unfold endsK; rfl)
  have HBA : RowKit.Hid (∀ o, Below w.heap.size w (w.alloc o)) := Lib.hid fun o => (Below.refl _ _).alloc (Nat.le_refl _) o
  generalize (fun (e : Ending) w' => e = .returned (.bool (endsK k t)) ∧ Below w.heap.size w w') = Q at *
  by_cases h1 : k = 1
  · subst h1
    go_enter Tryz.func17, Tryz.ntmps17
    go_wp2_with fail
    exact HQ.out _ _ (by rw [HV.out]; rfl) (Below.refl _ _)
  · have m1 : (k == 1) = false := by rw [beq_eq_false_iff_ne]; exact h1
    by_cases h37 : 3 ≤ k ∧ k ≤ 7
    · obtain ⟨h3, h7⟩ := h37
      have HV2 : RowKit.Hid (endsK k t = true) := Lib.hid (by rw [HV.out, if_pos (Or.inr ⟨h3, h7⟩)])
      go_enter Tryz.func17, Tryz.ntmps17
      go_wp2_with fail
      exact HQ.out _ _ HV2.out (Below.refl _ _)
    · by_cases h2 : k = 2
      · subst h2
        have HV2 : RowKit.Hid (endsK 2 t = endWords.any fun w => t.toList == w) := Lib.hid (by rw [HV.out]; rfl)
        clear HV h37
        go_enter Tryz.func17, Tryz.ntmps17
        go_wp2_with fail
        go_rounds 5
        all_goals (
          show Q (.returned (.bool _)) _
          refine HQ.out _ _ ?_ (HBA.out _)
          rw [HV2.out]
          unfold endWords
          clear HQ HV2 HBA
          rw [any_comm]; simp only [List.any_cons, List.any_nil, *, Bool.true_or, Bool.or_true, Bool.or_false, Bool.false_or])
      · have m2 : (k == 2) = false := by rw [beq_eq_false_iff_ne]; exact h2
        by_cases h8 : k = 8
        · subst h8
          have HV2 : RowKit.Hid (endsK 8 t = endSigns.any fun w => t.toList == w) := Lib.hid (by rw [HV.out]; rfl)
          clear HV h37
          go_enter Tryz.func17, Tryz.ntmps17
          go_wp2_with fail
          go_rounds 6
          all_goals (
            show Q (.returned (.bool _)) _
            refine HQ.out _ _ ?_ (HBA.out _)
            rw [HV2.out]
            unfold endSigns
            clear HQ HV2 HBA
            rw [any_comm]; simp only [List.any_cons, List.any_nil, *, Bool.true_or, Bool.or_true, Bool.or_false, Bool.false_or])
        · have m8 : (k == 8) = false := by rw [beq_eq_false_iff_ne]; exact h8
          have HV2 : RowKit.Hid (endsK k t = false) := Lib.hid (by rw [HV.out, if_neg (by omega), if_neg h2, if_neg h8])
          by_cases h3 : 3 ≤ k
          · have h7 : ¬ k ≤ 7 := by omega
            clear HV h37
            go_enter Tryz.func17, Tryz.ntmps17
            go_wp2_with fail
            go_rounds 1
            show Q (.returned (.bool _)) _
            exact HQ.out _ _ HV2.out (Below.refl _ _)
          · clear HV h37
            go_enter Tryz.func17, Tryz.ntmps17
            go_wp2_with fail
            go_rounds 1
            show Q (.returned (.bool _)) _
            exact HQ.out _ _ HV2.out (Below.refl _ _)
end Go.Proofs.YtelfobnmiphdnaaGreatDoor
namespace Go.Proofs.YtelfobnmiphdnaaGreatDoor
set_option linter.all false
open Go.RowKit

theorem mark_ascii {c : Nat} (h : isMark c = true) : c = 39 ∨ c = 34 ∨ c = 96 := by
  unfold isMark at h; simp at h; omega
theorem num_semi {s : ByteArray} {i : Nat} (h : bt s i = 59) : numScan s i = (0, 0, 15) := by
  unfold numScan
  rw [Int.toNat_natCast, if_neg]
  intro g
  have := g.2
  unfold numBegins at this
  rw [h] at this
  simp [dval] at this
theorem begun_semi {s : ByteArray} {i : Nat} (hi : i < s.size) (h : bt s i = 59) : (begun s i).2.2.2 = 15 := by
  unfold begun
  rw [if_neg (by omega), Int.toNat_natCast, h, if_neg (by decide)]
attribute [local irreducible] Calls
set_option maxRecDepth 100000 in
set_option maxHeartbeats 16000000 in
theorem ref_Lexeme (s : ByteArray) (i : Nat) (hi : i < s.size) (hs : s.size ≤ 2147483647) (w : World) :
    Calls Tryz.prog 25 #[.string s, .int .i64 (i : Int)] w fun e w' => e = .returned (.tuple #[.int .u8 (lex s i).1, .int .i64 (lex s i).2]) ∧ Below w.heap.size w w' := by
  have HQ : RowKit.Hid (∀ w' a b, lex s i = (a, b) → Below w.heap.size w w' → (fun (e : Ending) w' => e = .returned (.tuple #[.int .u8 (lex s i).1, .int .i64 (lex s i).2]) ∧ Below w.heap.size w w') (.returned (.tuple #[.int .u8 a, .int .i64 b])) w') := Lib.hid fun w' a b h h2 => ⟨by rw [h], h2⟩
  have HL : RowKit.Hid (lex s i = if (rd s i).1 = 65279 then ((10 : Int), ((i + (rd s i).2 : Nat) : Int))
    else if blank (rd s i).1 then (10, (blankTo s i : Int))
    else if i + 1 < s.size ∧ bt s i = 47 ∧ bt s (i + 1) = 47 then (11, (lineTo s i : Int))
    else if i + 1 < s.size ∧ bt s i = 47 ∧ bt s (i + 1) = 42 then (match blockTo s (i + 2) with | some e => (12, (e : Int)) | none => (0, 0))
    else if letter (rd s i).1 then (if word (s.extract i (wordTo s i)) then (2, (wordTo s i : Int)) else (1, (wordTo s i : Int)))
    else if bt s i = 59 then (9, ((i + 1 : Nat) : Int))
    else if (numScan s i).2.2 ≠ 15 then ((numScan s i).1, (numScan s i).2.1)
    else if (begun s i).2.2.2 ≠ 15 then ((begun s i).1, (begun s i).2.1)
    else if 0 < signL (byts (s.extract i s.size)) then (8, ((i + signL (byts (s.extract i s.size)) : Nat) : Int)) else (0, 0)) := Lib.hid (by unfold lex; rfl)
  have HSEM := Lib.hid (fun h => And.intro (@num_semi s i h) (@begun_semi s i hi h))
  have CR := ref_Read s (i : Int) w (by omega)
  rw [rdI_nat] at CR
  have CR := Lib.hid CR
  have C0 := Lib.hid (fun w => ref_run0 s i (by omega) hs w)
  have C1 := Lib.hid (fun w => ref_run1 s i (by omega) hs w)
  have CH1 := Lib.hid (fun w => by have := ref_has s i ⟨#[47, 47]⟩ (by omega) hs (by decide) w; rw [has2 s i (by omega)] at this; exact this)
  have CH2 := Lib.hid (fun w => by have := ref_has s i ⟨#[47, 42]⟩ (by omega) hs (by decide) w; rw [has2 s i (by omega)] at this; exact this)
  have CH3 := Lib.hid (fun k (hk : k ≤ s.size) w => by have := ref_has s k ⟨#[42, 47]⟩ hk hs (by decide) w; rw [has2 s k hk] at this; exact this)
  have CHX := Lib.hid (fun (x : List UInt8) (hx : x.length ≤ 2147483647) w => by have := ref_has s i ⟨x.toArray⟩ (by omega) hs (by rw [size_of]; exact hx) w; rw [has_pre s i (by omega)] at this; exact this)
  have CB := Lib.hid (fun w => ref_Blank ((rd s i).1 : Int) w)
  have CL := Lib.hid (fun w => ref_Letter ((rd s i).1 : Int) w)
  have CW := Lib.hid (fun w => ref_Word (s.extract i (wordTo s i)) w)
  have CN := Lib.hid (fun w => ref_Scan05 s i hi hs w)
  have CQ := Lib.hid (fun w => ref_Scan06 s (i : Int) hs w)
  have CS := Lib.hid (fun w => ref_Signs w)
  have HWT := wordTo_le s i (by omega)
  have hrw := rd_width s i
  have yi := bt_at s i hi
  generalize (fun (e : Ending) w' => e = .returned (.tuple #[.int .u8 (lex s i).1, .int .i64 (lex s i).2]) ∧ Below w.heap.size w w') = Q at *
  generalize lex s i = V at *
  have hi' : (i : Int) < s.size := by omega
  have hi0 : (0 : Int) ≤ i := by omega
  generalize rd s i = d at *
  obtain ⟨r, n⟩ := d
  simp only [] at *
  by_cases c1 : r = 65279
  · have hwk : IntKind.i64.wrap ((i : Int) + (n : Int)) = ((i + n : Nat) : Int) := by rw [IntKind.wrap_i64]; omega
    have HF := Lib.hid (HL.out.trans (if_pos c1))
    clear HL
    subst c1
    go_enter Tryz.func25, Tryz.ntmps25
    go_wp2_with fail
    refine CR.out.mono ?_
    rintro e w1 ⟨rfl, hb1⟩
    go_wp2_with fail
    exact HQ.out _ _ _ HF.out hb1
  · replace HL := Lib.hid (HL.out.trans (if_neg c1))
    have c1b : ((r : Int) == 65279) = false := by rw [beq_eq_false_iff_ne]; omega
    clear c1
    go_enter Tryz.func25, Tryz.ntmps25
    go_wp2_with fail
    refine CR.out.mono ?_
    rintro e w1 ⟨rfl, hb1⟩
    have HB1 := Lib.hid hb1
    clear hb1 CR
    by_cases c2 : blank (r : Int) = true
    · have HF := Lib.hid (HL.out.trans (if_pos c2))
      rw [c2] at CB
      clear HL c2
      go_wp2_with fail
      refine (CB.out w1).mono ?_
      rintro e w2 ⟨rfl, rfl⟩
      go_wp2_with fail
      refine (C0.out w1).mono ?_
      rintro e w3 ⟨rfl, hb3⟩
      go_wp2_with fail
      exact HQ.out _ _ _ HF.out (bthen HB1.out hb3)
    · replace HL := Lib.hid (HL.out.trans (if_neg c2))
      have c2f : blank (r : Int) = false := by simpa using c2
      rw [c2f] at CB
      clear c2 c2f
      go_wp2_with fail
      refine (CB.out w1).mono ?_
      rintro e w2 ⟨rfl, rfl⟩
      go_wp2_with fail
      by_cases c3 : i + 1 < s.size ∧ bt s i = 47 ∧ bt s (i + 1) = 47
      · have HF := Lib.hid (HL.out.trans (if_pos c3))
        have CH1a := CH1.out w1
        rw [decide_eq_true (show i + 1 < s.size ∧ bt s i = (47 : UInt8).toNat ∧ bt s (i + 1) = (47 : UInt8).toNat from c3)] at CH1a
        have CH1a := Lib.hid CH1a
        clear HL c3 CH1
        refine CH1a.out.mono ?_
        rintro e w2 ⟨rfl, rfl⟩
        go_wp2_with fail
        generalize hV : lineTo s i = V' at *
        have HV := Lib.hid hV
        clear hV yi
        go_loopw [8] (fun v wr => ∃ k : Nat, v = .int .i64 k ∧ k ≤ s.size ∧ RowKit.Hid (lineTo s k = V') ∧ wr = w1) (fun v _ => s.size - (intOf v).toNat)
        case atStart => exact ⟨i, rfl, by omega, HV, rfl⟩
        case round =>
          obtain ⟨k, rfl, hk, HK, rfl⟩ := hrel
          by_cases hlt : k < s.size
          · have hlt' : (k : Int) < s.size := by omega
            have hk0 : (0 : Int) ≤ k := by omega
            have yk := bt_at s k hlt
            have hwk : IntKind.i64.wrap ((k : Int) + 1) = ((k + 1 : Nat) : Int) := by rw [IntKind.wrap_i64]; omega
            by_cases h10 : bt s k = 10
            · have HF2 : RowKit.Hid (V' = k) := Lib.hid (by rw [← HK.out, lineTo.eq_def s k, if_neg (fun g => g.2 h10)])
              rw [h10] at yk
              clear h10 HK
              go_wp2_with fail
              exact HQ.out _ _ _ (by rw [HF.out, HF2.out]) HB1.out
            · have HT2 : RowKit.Hid (lineTo s (k + 1) = V') := Lib.hid (by rw [← HK.out, lineTo.eq_def s k, if_pos ⟨hlt, h10⟩])
              have h10b : ((bt s k : Int) != 10) = true := by simp; omega
              clear h10 HK
              generalize bt s k = c at *
              go_wp2_with fail
              refine ⟨⟨k + 1, congrArg (Value.int .i64) (by omega), hlt, HT2, (by first | trivial | rfl)⟩, ?_⟩
              simp only [intOf]
              omega
          · have hlt' : ¬ (k : Int) < s.size := by omega
            have HF2 : RowKit.Hid (V' = k) := Lib.hid (by rw [← HK.out, lineTo.eq_def s k, if_neg (fun g => hlt g.1)])
            go_wp2_with fail
            exact HQ.out _ _ _ (by rw [HF.out, HF2.out]) HB1.out
      · replace HL := Lib.hid (HL.out.trans (if_neg c3))
        have CH1a := CH1.out w1
        rw [decide_eq_false (show ¬ (i + 1 < s.size ∧ bt s i = (47 : UInt8).toNat ∧ bt s (i + 1) = (47 : UInt8).toNat) from c3)] at CH1a
        have CH1a := Lib.hid CH1a
        clear c3 CH1
        refine CH1a.out.mono ?_
        rintro e w2 ⟨rfl, rfl⟩
        go_wp2_with fail
        by_cases c4 : i + 1 < s.size ∧ bt s i = 47 ∧ bt s (i + 1) = 42
        · have HF := Lib.hid (HL.out.trans (if_pos c4))
          have CH2a := CH2.out w1
          rw [decide_eq_true (show i + 1 < s.size ∧ bt s i = (47 : UInt8).toNat ∧ bt s (i + 1) = (42 : UInt8).toNat from c4)] at CH2a
          have CH2a := Lib.hid CH2a
          have hi2 : i + 2 ≤ s.size := by omega
          have hw2 : IntKind.i64.wrap ((i : Int) + 2) = ((i + 2 : Nat) : Int) := by rw [IntKind.wrap_i64]; omega
          clear HL c4 CH2
          refine CH2a.out.mono ?_
          rintro e w2 ⟨rfl, rfl⟩
          go_wp2_with fail
          generalize hV : blockTo s (i + 2) = V' at *
          have HV := Lib.hid hV
          clear hV yi
          go_loopw [9] (fun v wr => ∃ k : Nat, v = .int .i64 k ∧ k ≤ s.size ∧ RowKit.Hid (blockTo s k = V') ∧ wr = w1) (fun v _ => s.size - (intOf v).toNat)
          case atStart => exact ⟨i + 2, (by first | rfl | exact congrArg (Value.int .i64) (by omega)), hi2, HV, rfl⟩
          case round =>
            obtain ⟨k, rfl, hk, HK, rfl⟩ := hrel
            by_cases hlt : k < s.size
            · have hlt' : (k : Int) < s.size := by omega
              have hk0 : (0 : Int) ≤ k := by omega
              have hwk : IntKind.i64.wrap ((k : Int) + 1) = ((k + 1 : Nat) : Int) := by rw [IntKind.wrap_i64]; omega
              have hwk2 : IntKind.i64.wrap ((k : Int) + 2) = ((k + 2 : Nat) : Int) := by rw [IntKind.wrap_i64]; omega
              have C3k := CH3.out k hk wr
              by_cases hm : k + 1 < s.size ∧ bt s k = 42 ∧ bt s (k + 1) = 47
              · rw [decide_eq_true (show k + 1 < s.size ∧ bt s k = (42 : UInt8).toNat ∧ bt s (k + 1) = (47 : UInt8).toNat from hm)] at C3k
                have C3k := Lib.hid C3k
                have HF2 : RowKit.Hid (V' = some (k + 2)) := Lib.hid (by rw [← HK.out, blockTo.eq_def s k, if_pos hm.1, if_pos hm.2])
                clear hm HK
                go_wp2_with fail
                refine C3k.out.mono ?_
                rintro e w2 ⟨rfl, rfl⟩
                go_wp2_with fail
                exact HQ.out _ _ _ (by rw [HF.out, HF2.out]; rfl) HB1.out
              · rw [decide_eq_false (show ¬ (k + 1 < s.size ∧ bt s k = (42 : UInt8).toNat ∧ bt s (k + 1) = (47 : UInt8).toNat) from hm)] at C3k
                have C3k := Lib.hid C3k
                have HT2 : RowKit.Hid (blockTo s (k + 1) = V') := Lib.hid (by
                  rw [← HK.out, blockTo.eq_def s k]
                  by_cases g : k + 1 < s.size
                  · rw [if_pos g, if_neg (fun q => hm ⟨g, q⟩)]
                  · rw [if_neg g, blockTo.eq_def s (k + 1), if_neg (by omega)])
                clear hm HK
                go_wp2_with fail
                refine C3k.out.mono ?_
                rintro e w2 ⟨rfl, rfl⟩
                go_wp2_with fail
                refine ⟨⟨k + 1, congrArg (Value.int .i64) (by omega), hlt, HT2, (by first | trivial | rfl)⟩, ?_⟩
                simp only [intOf]
                omega
            · have hlt' : ¬ (k : Int) < s.size := by omega
              have HF2 : RowKit.Hid (V' = none) := Lib.hid (by rw [← HK.out, blockTo.eq_def s k, if_neg (by omega)])
              go_wp2_with fail
              exact HQ.out _ _ _ (by rw [HF.out, HF2.out]) HB1.out
        · replace HL := Lib.hid (HL.out.trans (if_neg c4))
          have CH2a := CH2.out w1
          rw [decide_eq_false (show ¬ (i + 1 < s.size ∧ bt s i = (47 : UInt8).toNat ∧ bt s (i + 1) = (42 : UInt8).toNat) from c4)] at CH2a
          have CH2a := Lib.hid CH2a
          clear c4 CH2
          refine CH2a.out.mono ?_
          rintro e w2 ⟨rfl, rfl⟩
          by_cases c5 : letter (r : Int) = true
          · have HF := Lib.hid (HL.out.trans (if_pos c5))
            rw [c5] at CL
            have q1 : (i : Int) ≤ (wordTo s i : Nat) := by omega
            have q2 : ((wordTo s i : Nat) : Int) ≤ s.size := by omega
            clear HL c5 HWT
            generalize hWt : wordTo s i = wt at *
            clear hWt
            generalize word (s.extract i wt) = wb at *
            cases wb
            all_goals
              go_wp2_with fail
              refine (CL.out w1).mono ?_
              rintro e w2 ⟨rfl, hb2⟩
              have HB2 := Lib.hid (bthen HB1.out hb2)
              clear hb2
              go_wp2_with fail
              refine (C1.out w2).mono ?_
              rintro e w3 ⟨rfl, hb3⟩
              have HB3 := Lib.hid (bthen HB2.out hb3)
              clear hb3
              go_wp2_with fail
              refine (CW.out w3).mono ?_
              rintro e w4 ⟨rfl, hb4⟩
              have HB4 := Lib.hid (bthen HB3.out hb4)
              clear hb4
              go_wp2_with fail
              exact HQ.out _ _ _ HF.out HB4.out
          · replace HL := Lib.hid (HL.out.trans (if_neg c5))
            have c5f : letter (r : Int) = false := by simpa using c5
            rw [c5f] at CL
            clear c5 c5f
            go_wp2_with fail
            refine (CL.out w1).mono ?_
            rintro e w2 ⟨rfl, hb2⟩
            have HB2 := Lib.hid (bthen HB1.out hb2)
            clear hb2 HB1
            have hwk1 : IntKind.i64.wrap ((i : Int) + 1) = ((i + 1 : Nat) : Int) := by rw [IntKind.wrap_i64]; omega
            by_cases c6 : bt s i = 59
            · have HF := Lib.hid (HL.out.trans (if_pos c6))
              obtain ⟨n1, n2⟩ := HSEM.out c6
              rw [n1] at CN
              rw [c6] at yi
              clear HL HSEM n1 c6
              go_wp2_with fail
              refine (CN.out w2).mono ?_
              rintro e w3 ⟨rfl, rfl⟩
              go_wp2_with fail
              refine (CQ.out w2).mono ?_
              intro e w3 h3
              unfold scanPost at h3
              rw [n2] at h3
              obtain ⟨rfl, hb3⟩ := h3
              clear n2
              go_wp2_with fail
              exact HQ.out _ _ _ HF.out (bthen HB2.out hb3)
            · replace HL := Lib.hid (HL.out.trans (if_neg c6))
              have c6b : ((bt s i : Int) == 59) = false := by rw [beq_eq_false_iff_ne]; omega
              clear HSEM c6
              generalize numScan s i = q at *
              obtain ⟨qa, qb, qc⟩ := q
              simp only [] at *
              by_cases c7 : qc = 15
              · subst c7
                replace HL := Lib.hid (HL.out.trans (if_neg (by decide)))
                go_wp2_with fail
                refine (CN.out w2).mono ?_
                rintro e w3 ⟨rfl, rfl⟩
                go_wp2_with fail
                refine (CQ.out w2).mono ?_
                intro e w3 h3
                unfold scanPost at h3
                generalize begun s i = p at *
                obtain ⟨pa, pb, pv, pc⟩ := p
                simp only [] at *
                obtain ⟨rfl, hb3⟩ := h3
                have HB3 := Lib.hid (bthen HB2.out hb3)
                clear hb3 HB2
                by_cases c8 : pc = 15
                · subst c8
                  replace HL := Lib.hid (HL.out.trans (if_neg (by decide)))
                  generalize bt s i = c at *
                  go_wp2_with fail
                  refine (CS.out w3).mono ?_
                  rintro e w4 ⟨rfl, rfl⟩
                  have HB4 := Lib.hid (HB3.out.alloc HB3.out.size (.cells signVals 9))
                  have hcell : ∀ j, (w3.alloc (.cells signVals 9)).cell? ⟨w3.heap.size, j, none⟩ = signVals[j]? := fun j => World.cell?_alloc_at _ _ _ _ rfl
                  have HCL := Lib.hid hcell
                  have HAT := Lib.hid signVals_at
                  have HBS := Lib.hid (best_sign (byts (s.extract i s.size)))
                  have HBN := Lib.hid (best_next (byts (s.extract i s.size)))
                  have HB0 : RowKit.Hid (bestF (byts (s.extract i s.size)) (signsN.take 0) 0 = 0) := Lib.hid rfl
                  have HTK : RowKit.Hid (signsN.take 47 = signsN) := Lib.hid rfl
                  have HLN : RowKit.Hid (∀ k, k < 47 → (signsR.getD k []).length ≤ 3) := Lib.hid (by decide +kernel)
                  have hss : s.size - i ≤ 2147483647 := by omega
                  clear hcell HB3
                  generalize byts (s.extract i s.size) = bs at *
                  generalize signVals = CC at *
                  have hW : w3.heap.size < (w3.alloc (.cells CC 9)).heap.size := by simp
                  generalize w3.alloc (.cells CC 9) = W at *
                  go_wp2_with fail
                  go_loopw [14, 16] (fun b v wr => ∃ k m : Nat, v = .int .i64 k ∧ b = .int .i64 m ∧ k ≤ 47 ∧ m ≤ 3 ∧ RowKit.Hid (bestF bs (signsN.take k) 0 = m) ∧ wr = W) (fun _ v _ => 47 - (intOf v).toNat)
                  case atStart => exact ⟨0, 0, rfl, rfl, Nat.zero_le _, Nat.zero_le _, HB0, rfl⟩
                  case round =>
                    obtain ⟨k, m, rfl, rfl, hk, hm, HK, rfl⟩ := hrel
                    by_cases hlt : k < 47
                    · have hlt' : (k : Int) < 47 := by omega
                      have hk0 : (0 : Int) ≤ k := by omega
                      have hwk : IntKind.i64.wrap ((k : Int) + 1) = ((k + 1 : Nat) : Int) := by rw [IntKind.wrap_i64]; omega
                      have h0 : wr.cell? ⟨w3.heap.size, k, none⟩ = some (.string ⟨(signsR.getD k []).toArray⟩) := by rw [HCL.out, HAT.out k hlt]
                      have hn3 := HLN.out k hlt
                      have hst := HBN.out k hlt
                      rw [HK.out] at hst
                      generalize signsR.getD k [] = x at *
                      have CXx := CHX.out x (by omega) wr
                      have hzx := size_of x
                      have hml : (x.map fun b => b.toNat).length = x.length := List.length_map _
                      unfold bestStep at hst
                      rw [hml] at hst
                      have hx3 : (x.length : Int) ≤ 3 := by omega
                      by_cases hp : bs.take x.length = x.map fun b => b.toNat
                      · rw [decide_eq_true hp] at CXx
                        have CXx := Lib.hid CXx
                        by_cases hgt : m < x.length
                        · have hgt' : (m : Int) < x.length := by omega
                          have HN := Lib.hid (hst.trans (if_pos ⟨hp, hgt⟩))
                          clear hst HK hp hgt
                          go_wp2_with fail
                          refine CXx.out.mono ?_
                          rintro e w5 ⟨rfl, rfl⟩
                          go_wp2_with fail
                          refine ⟨⟨k + 1, x.length, congrArg (Value.int .i64) (by omega), rfl, hlt, hn3, HN, (by first | trivial | rfl)⟩, ?_⟩
                          simp only [intOf]
                          omega
                        · have hgt' : ¬ (m : Int) < x.length := by omega
                          have HN := Lib.hid (hst.trans (if_neg (fun g => hgt g.2)))
                          clear hst HK hp hgt
                          go_wp2_with fail
                          refine CXx.out.mono ?_
                          rintro e w5 ⟨rfl, rfl⟩
                          go_wp2_with fail
                          refine ⟨⟨k + 1, m, congrArg (Value.int .i64) (by omega), rfl, hlt, hm, HN, (by first | trivial | rfl)⟩, ?_⟩
                          simp only [intOf]
                          omega
                      · rw [decide_eq_false hp] at CXx
                        have CXx := Lib.hid CXx
                        have HN := Lib.hid (hst.trans (if_neg (fun g => hp g.1)))
                        clear hst HK hp
                        go_wp2_with fail
                        refine CXx.out.mono ?_
                        rintro e w5 ⟨rfl, rfl⟩
                        go_wp2_with fail
                        refine ⟨⟨k + 1, m, congrArg (Value.int .i64) (by omega), rfl, hlt, hm, HN, (by first | trivial | rfl)⟩, ?_⟩
                        simp only [intOf]
                        omega
                    · have hlt' : ¬ (k : Int) < 47 := by omega
                      obtain rfl : k = 47 := by omega
                      have hsl : signL bs = m := by rw [← HBS.out, ← HTK.out]; exact HK.out
                      rw [hsl] at HL
                      have hwm : IntKind.i64.wrap ((i : Int) + (m : Int)) = ((i + m : Nat) : Int) := by rw [IntKind.wrap_i64]; omega
                      clear hsl HK
                      by_cases hm0 : m = 0
                      · subst hm0
                        have HF := Lib.hid (HL.out.trans (if_neg (by decide)))
                        go_wp2_with fail
                        exact HQ.out _ _ _ HF.out HB4.out
                      · have HF := Lib.hid (HL.out.trans (if_pos (by omega)))
                        have hm0b : ((m : Int) == 0) = false := by rw [beq_eq_false_iff_ne]; omega
                        go_wp2_with fail
                        exact HQ.out _ _ _ HF.out HB4.out
                · have HF := Lib.hid (HL.out.trans (if_pos c8))
                  have c8b : (pc != 15) = true := by simpa using c8
                  clear c8
                  go_wp2_with fail
                  exact HQ.out _ _ _ HF.out HB3.out
              · have HF := Lib.hid (HL.out.trans (if_pos c7))
                have c7b : (qc != 15) = true := by simpa using c7
                clear c7
                go_wp2_with fail
                refine (CN.out w2).mono ?_
                rintro e w3 ⟨rfl, rfl⟩
                go_wp2_with fail
                exact HQ.out _ _ _ HF.out HB2.out
end Go.Proofs.YtelfobnmiphdnaaGreatDoor
namespace Go.Proofs.YtelfobnmiphdnaaGreatDoor
set_option linter.all false
open Go.RowKit
attribute [local irreducible] Calls

theorem goes_go {s : ByteArray} {k at' : Nat} (h : k < at') (h0 : (rd s k).2 ≠ 0) : goes s k at' = goes s (k + (rd s k).2) at' := by rw [goes, dif_pos ⟨h, h0⟩]
theorem goes_end {s : ByteArray} {k at' : Nat} (h : ¬ k < at') : goes s k at' = k := by rw [goes, dif_neg (fun g => h g.1)]
theorem clean_ok {s : ByteArray} {i : Nat} (hc : cleanZ s i < 0) (hi : i < s.size) : (rd s i).2 ≠ 0 ∧ cleanZ s (i + (rd s i).2) < 0 := by
  have hb : badHere s i = false := by
    cases h : badHere s i
    · rfl
    · rw [clean_bad hi h] at hc; omega
  exact ⟨good_width hb, by rw [← clean_step hi hb]; exact hc⟩
end Go.Proofs.YtelfobnmiphdnaaGreatDoor
namespace Go.Proofs.YtelfobnmiphdnaaGreatDoor
set_option linter.all false
open Go.RowKit

/-- What holds at the loop's head. -/
def rallRel (s : ByteArray) (w : World) (v i : Value) (wr : World) : Prop :=
  ∃ (pos : Nat) (l : List (Int × Nat × Nat)), i = .int .i64 pos ∧ pos ≤ s.size ∧ (alls s 0).1 = l ++ (alls s pos).1 ∧ (alls s 0).2 = (alls s pos).2 ∧ Below w.heap.size w wr ∧
    wr.ownsRow (w.heap.size + 1) 41 3 v l.length (toksV l) ∧ FK wr w.heap.size 0 0
set_option maxRecDepth 100000 in
set_option maxHeartbeats 8000000 in
theorem ref_All07 (s : ByteArray) (hs : s.size ≤ 2147483647) (w : World) :
    Calls Tryz.prog 15 #[.string s] w (allPost (scanAll s) w) := by
  have HQ : RowKit.Hid (∀ w' v l e a, scanAll s = (l, e, a) → Below w.heap.size w w' → w'.ownsRow w.heap.size 41 3 v l.length (toksV l) → allPost (scanAll s) w (.returned (.tuple #[v, .agg #[.int .i64 e, .int .i64 a]])) w') := Lib.hid fun w' v l e a h h2 h3 => by
    unfold allPost; rw [h]; exact ⟨v, rfl, h2, h3⟩
  have HV : RowKit.Hid (scanAll s = _) := Lib.hid (by unfold scanAll; rfl)
  generalize allPost (scanAll s) w = Q at *
  have CC := Lib.hid (fun w' => ref_Clean07 s (by omega) w')
  have CN := Lib.hid (fun a ha w' => ref_Lexeme s a ha hs w')
  have HF : RowKit.Hid (∀ (tm : Array Value) W' v l e a, scanAll s = (l, e, a) → Below w.heap.size w W' → W'.ownsRow w.heap.size 41 3 v l.length (toksV l) → FK W' w.heap.size e a → tm.getD 3 undef = .pointer (some ⟨w.heap.size, 0, none⟩) → tm.getD 2 undef = v → bodyPost Tryz.prog Tryz.f15 Q .ret ⟨tm, []⟩ W') :=
    Lib.hid fun tm W' v l e a h1 h2 h3 h4 h5 h6 => by
      refine bodyPost_ret (results_tmp_cell rfl tm W' w.heap.size 27 #[.int .i64 e, .int .i64 a] (0, 0) _ h5 h4 Tryz.underlying27 rfl (by kernel_rfl)) rfl ?_
      rw [h6]
      exact HQ.out W' v l e a h1 h2 h3
  have hT4 : FK (w.alloc (.cells #[.int .i64 0, .int .i64 0] 27)) w.heap.size 0 0 := by
    unfold FK; exact heap_alloc_new _ _
  have hbW : Below w.heap.size w (w.alloc (.cells #[.int .i64 0, .int .i64 0] 27)) := (Below.refl _ _).alloc (Nat.le_refl _) _
  have H4 := Lib.hid hT4
  have HBW := Lib.hid hbW
  clear hT4 hbW
  by_cases hbig : 65536 < s.size
  · rw [if_pos hbig] at HV
    have hbig' : (65536 : Int) < s.size := by omega
    go_enter Tryz.func15, Tryz.ntmps15
    go_wp2_with fail
    refine HF.out _ _ _ [] 2 0 HV.out ?_ ?_ ?_ rfl rfl
    · exact (Below.refl _ _).alloc (Nat.le_refl _) _
    · exact World.ownsRow_nil _ _ _ _
    · unfold FK; exact heap_alloc_new _ _
  · rw [if_neg hbig] at HV
    have hbig' : ¬ (65536 : Int) < s.size := by omega
    have hsz : s.size ≤ 65536 := by omega
    generalize clean s = cl at *
    by_cases hcl : 0 ≤ cl
    · rw [if_pos hcl] at HV
      go_enter Tryz.func15, Tryz.ntmps15
      go_wp2_with fail
      refine (CC.out _).mono ?_
      rintro e w2 ⟨rfl, hb2⟩
      have HB2 := Lib.hid (bthen HBW.out hb2)
      have H42 := Lib.hid (H4.out.keep hb2)
      clear hb2
      have z40 := H42.out.fz 0; have z41 := H42.out.fz 1; have c40 := H42.out.c0; have c41 := H42.out.c1
      go_wp2_with fail
      exact HF.out _ _ _ [] 3 cl HV.out (below_fill2 HB2.out (Nat.le_refl _) _ _) (World.ownsRow_nil _ _ _ _) (H42.out.fill _ _) rfl rfl
    · rw [if_neg hcl] at HV
      have hcl' : ¬ (0 : Int) ≤ cl := hcl
      go_enter Tryz.func15, Tryz.ntmps15
      go_wp2_with fail
      refine (CC.out _).mono ?_
      rintro e w2 ⟨rfl, hb2⟩
      have HB2 := Lib.hid (bthen HBW.out hb2)
      have H42 := Lib.hid (H4.out.keep hb2)
      clear hb2
      go_wp2_with fail
      go_loopw [5, 6] (fun v i wr => rallRel s w v i wr) (fun _ i _ => s.size - (intOf i).toNat)
      case atStart => exact ⟨0, [], rfl, Nat.zero_le _, rfl, rfl, HB2.out, World.ownsRow_nil _ _ _ _, H42.out⟩
      case round =>
        obtain ⟨pos, l, rfl, hpos, h1, h2, hb, ho, hf⟩ := hrel
        obtain ⟨va, vm, vc, rfl⟩ := owns_slice ho
        have HB := Lib.hid hb
        have HO := Lib.hid ho
        have HFK := Lib.hid hf
        have HL := Lib.hid h1
        have HE := Lib.hid h2
        have hlt0 := lt_of_block (show wr.heap[w.heap.size]? = some _ from hf)
        have hlen : l.length ≤ 65536 := by
          have := alls_len s 0
          rw [h1, List.length_append] at this; omega
        clear hb ho hf h1 h2
        by_cases hlt : pos < s.size
        · have hlt' : (pos : Int) < s.size := by omega
          have CNp := Lib.hid (CN.out pos hlt)
          have HGT := Lib.hid (lex_gt s pos hlt)
          have HAB := Lib.hid (@alls_bad s pos hlt)
          have HAS := Lib.hid (fun e k => @alls_step s pos e k hlt)
          go_wp2_with fail
          refine (CNp.out _).mono ?_
          rintro e w3 ⟨rfl, hb3⟩
          generalize lex s pos = q at *
          obtain ⟨k, t⟩ := q
          simp only [] at *
          have hz3 : w.heap.size < w3.heap.size := Nat.lt_of_lt_of_le hlt0 hb3.size
          have HB3 := Lib.hid (bthen HB.out hb3)
          have HF3 := Lib.hid (HFK.out.keep hb3)
          have HO3 := Lib.hid (owns_below HO.out hb3)
          clear hb3
          by_cases hk : k = 0
          · subst hk
            have HV2 : RowKit.Hid (scanAll s = ([], 4, (pos : Int))) := Lib.hid (by rw [HV.out, HE.out, HAB.out rfl])
            clear HV
            have z40 := HF3.out.fz 0; have z41 := HF3.out.fz 1; have c40 := HF3.out.c0; have c41 := HF3.out.c1
            go_wp2_with fail
            exact HF.out _ _ _ [] 4 pos HV2.out (below_fill2 HB3.out (Nat.le_refl _) _ _) (World.ownsRow_nil _ _ _ _) (HF3.out.fill _ _) rfl rfl
          · obtain ⟨e, rfl, he1, he2⟩ := HGT.out hk
            have hst := HAS.out e k rfl hk
            have hm1 : RowKit.Hid ((alls s 0).1 = (l ++ [(k, pos, e)]) ++ (alls s e).1) := Lib.hid (by rw [HL.out, hst]; simp)
            have hm2 : RowKit.Hid ((alls s 0).2 = (alls s e).2) := Lib.hid (by rw [HE.out, hst])
            have hkb : (k == 0) = false := by rw [beq_eq_false_iff_ne]; exact hk
            have HE12 : RowKit.Hid (pos < e ∧ e ≤ s.size) := Lib.hid ⟨he1, he2⟩
            clear HAB HAS HGT hst CNp HL HE hk he1 he2
            go_wp2_with (at_builtin; refine wpList_append_lit w3 #[.int .u8 k, .int .i64 (pos : Int), .int .i64 (e : Int)] _ rfl _ _ 23 41 rfl Tryz.underlying23 (w.heap.size + 1) info_tok rfl (by decide) _ _ _ rfl HO3.out 1 1 rfl rfl (by decide) (by intro u hu; simp at hu; rcases hu with rfl | rfl | rfl <;> rfl) (by omega) (by omega) (by omega) ?_)
            intro v' w' hown hgr _
            have hb4 := grown_below HB3.out (by omega) (owns_mono HO3.out (Nat.le_succ _)) hgr
            have hnf : (Value.slice va vm vc).ownBlock ≠ some w.heap.size := owns_not HO3.out (Or.inl (Nat.lt_succ_self _))
            have HF4 := Lib.hid ((HF3.out.alloc _).grown hgr hnf)
            have HR : RowKit.Hid (rallRel s w v' (.int .i64 (e : Int)) w') := Lib.hid ⟨e, l ++ [(k, pos, e)], rfl, HE12.out.2, hm1.out, hm2.out, hb4, by rw [List.length_append, toksV_snoc]; exact hown, HF4.out⟩
            clear hown hgr hb4 hnf
            go_wp2_with fail
            refine ⟨?_, (by have := HE12.out; simp [intOf]; try omega)⟩
            first
              | exact HR.out
              | (repeat apply Exists.intro
                 refine ⟨?_, rfl⟩
                 exact HR.out)
        · have hlt' : ¬ (pos : Int) < s.size := by omega
          have HV2 : RowKit.Hid (scanAll s = (l, 0, 0)) := Lib.hid (by
            have e := alls_end (s := s) (i := pos) hlt
            rw [HV.out, HE.out, e]
            have := HL.out
            rw [e, List.append_nil] at this
            rw [this])
          clear HV
          have z40 := HFK.out.fz 0; have z41 := HFK.out.fz 1; have c40 := HFK.out.c0; have c41 := HFK.out.c1
          go_wp2_with fail
          have hnf : (Value.slice va vm vc).ownBlock ≠ some w.heap.size := owns_not HO.out (Or.inl (Nat.lt_succ_self _))
          refine HF.out _ _ _ l 0 0 HV2.out (below_fill2 HB.out (Nat.le_refl _) _ _) (owns_mono (ownsRow_setCell_other (ownsRow_setCell_other HO.out (a := ⟨w.heap.size, 0, none⟩) hnf _) (a := ⟨w.heap.size, 1, none⟩) hnf _) (Nat.le_succ _)) (HFK.out.fill _ _) rfl rfl
end Go.Proofs.YtelfobnmiphdnaaGreatDoor
namespace Go.Proofs.YtelfobnmiphdnaaGreatDoor
set_option linter.all false
open Go.RowKit

theorem ex7_all : scanAll ⟨#[120, 58, 61, 49, 46, 53, 47, 47, 99]⟩ = ([(1, 0, 1), (8, 1, 3), (4, 3, 6), (11, 6, 9)], 0, 0) := by decide +kernel
theorem ex7_one : oneZ ⟨#[97, 38, 94, 61, 98]⟩ 1 = (8, 1, 4, 0) := by decide +kernel
theorem ex7_bad : scanAll ⟨#[97, 32, 47, 42, 32, 98]⟩ = ([], 4, 2) := by decide +kernel
end Go.Proofs.YtelfobnmiphdnaaGreatDoor
namespace Go.Proofs.YtelfobnmiphdnaaGreatDoor
set_option linter.all false
open Go.RowKit

theorem ex8_a : semiAll ⟨#[97, 10, 98]⟩ = ([(1, 0, 1), (9, 1, 1), (1, 2, 3), (9, 3, 3)], 0, 0) := by decide +kernel
theorem ex8_b : semiAll ⟨#[97, 32, 43, 10, 98, 59]⟩ = ([(1, 0, 1), (8, 2, 3), (1, 4, 5), (9, 5, 6)], 0, 0) := by decide +kernel
theorem ex8_c : endsK 8 ⟨#[125]⟩ = true := by decide +kernel
theorem ex8_d : endsK 2 ⟨#[103, 111]⟩ = false := by decide +kernel
end Go.Proofs.YtelfobnmiphdnaaGreatDoor
namespace Go.Proofs.YtelfobnmiphdnaaGreatDoor
set_option linter.all false
attribute [local irreducible] wpStill
open Go.RowKit

/-- A slice of tokens, read. -/
def TR (w : World) (v : Value) (l : List (Int × Nat × Nat)) : Prop :=
  ∃ a cap, v = .slice a l.length cap ∧ l.length ≤ cap ∧ (0 < l.length → ∃ b, a = some ⟨b, 0, none⟩ ∧ b < w.heap.size ∧ ∀ i (hi : i < l.length), w.cell? ⟨b, i * 3, none⟩ = some (.int .u8 l[i].1) ∧ w.cell? ⟨b, i * 3 + 1, none⟩ = some (.int .i64 (l[i].2.1 : Nat)) ∧ w.cell? ⟨b, i * 3 + 2, none⟩ = some (.int .i64 (l[i].2.2 : Nat)))
theorem TR.of_owns {w : World} {B : Nat} {v : Value} {l : List (Int × Nat × Nat)} (h : w.ownsRow B 41 3 v l.length (toksV l)) : TR w v l := by
  obtain ⟨_, a, cap, hv, hc, _, _⟩ := Row.of_owns h
  refine ⟨a, cap, hv, hc, fun hpos => ?_⟩
  obtain ⟨b, cap', hv', _, hbl, hcell⟩ := tok_row h hpos
  rw [hv] at hv'
  simp only [Value.slice.injEq] at hv'
  exact ⟨b, hv'.1, hbl, hcell⟩
theorem TR.below {w w' : World} {v : Value} {l : List (Int × Nat × Nat)} (h : TR w v l) (hb : Below w.heap.size w w') : TR w' v l := by
  obtain ⟨a, cap, hv, hc, h2⟩ := h
  refine ⟨a, cap, hv, hc, fun hpos => ?_⟩
  obtain ⟨b, ha, hbl, hcell⟩ := h2 hpos
  refine ⟨b, ha, Nat.lt_of_lt_of_le hbl hb.size, fun i hi => ?_⟩
  have := hcell i hi
  exact ⟨by rw [hb.cell (p := ⟨b, i * 3, none⟩) hbl]; exact this.1, by rw [hb.cell (p := ⟨b, i * 3 + 1, none⟩) hbl]; exact this.2.1, by rw [hb.cell (p := ⟨b, i * 3 + 2, none⟩) hbl]; exact this.2.2⟩
theorem TR.at {w w' : World} {a : Option Addr} {n cap : Nat} {l : List (Int × Nat × Nat)} (h : TR w (.slice a n cap) l) (hb : Below w.heap.size w w') {i : Nat} (hi : i < l.length) :
    ∃ b, a = some ⟨b, 0, none⟩ ∧ n = l.length ∧ l.length ≤ cap ∧ w'.cell? ⟨b, i * 3, none⟩ = some (.int .u8 l[i].1) ∧ w'.cell? ⟨b, i * 3 + 1, none⟩ = some (.int .i64 (l[i].2.1 : Nat)) ∧ w'.cell? ⟨b, i * 3 + 2, none⟩ = some (.int .i64 (l[i].2.2 : Nat)) := by
  obtain ⟨a', cap', hv, hc, hcells⟩ := h.below hb
  simp only [Value.slice.injEq] at hv
  obtain ⟨rfl, rfl, rfl⟩ := hv
  obtain ⟨b, hb', _, hcell⟩ := hcells (by omega)
  have := hcell i hi
  exact ⟨b, hb', rfl, hc, this.1, this.2.1, this.2.2⟩
set_option maxRecDepth 100000 in
set_option maxHeartbeats 8000000 in
theorem ref_Same07 (v1 v2 : Value) (l : List (Int × Nat × Nat)) (hl : l.length ≤ 200000) (w : World) (hr1 : TR w v1 l) (hr2 : TR w v2 l) :
    Calls Tryz.prog 8 #[v1, v2] w fun e w' => e = .returned (.bool true) ∧ Below w.heap.size w w' := by
  have HQ : RowKit.Hid (∀ w', Below w.heap.size w w' → (fun (e : Ending) w' => e = .returned (.bool true) ∧ Below w.heap.size w w') (.returned (.bool true)) w') := Lib.hid fun w' h => ⟨rfl, h⟩
  generalize (fun (e : Ending) w' => e = .returned (.bool true) ∧ Below w.heap.size w w') = Q at *
  have HR1 := Lib.hid hr1
  have HR2 := Lib.hid hr2
  obtain ⟨a1, cap1, rfl, hcap1, _⟩ := hr1
  obtain ⟨a2, cap2, rfl, hcap2, _⟩ := hr2
  go_enter Tryz.func8, Tryz.ntmps8
  go_wp2_with fail
  go_loopw [5] (fun i wr => ∃ k : Nat, i = .int .i64 k ∧ k ≤ l.length ∧ Below w.heap.size w wr) (fun i _ => l.length - (intOf i).toNat)
  case atStart => exact ⟨0, rfl, Nat.zero_le _, Below.refl _ _⟩
  case round =>
    obtain ⟨k, rfl, hk, hb⟩ := hrel
    have HB := Lib.hid hb
    clear hb
    by_cases hlt : k < l.length
    · have hlt' : (k : Int) < l.length := by omega
      obtain ⟨b1, rfl, _, _, d0, d1, d2⟩ := HR1.out.at HB.out hlt
      obtain ⟨b2, rfl, _, _, e0, e1, e2⟩ := HR2.out.at HB.out hlt
      generalize l[k] = t at *
      obtain ⟨kk, ff, tt⟩ := t
      simp only [] at d0 d1 d2 e0 e1 e2
      have hk0 : (0 : Int) ≤ k := by omega
      have hkc : (k : Int) < cap1 := by omega
      have hkc2 : (k : Int) < cap2 := by omega
      have hwk : IntKind.i64.wrap ((k : Int) + 1) = ((k + 1 : Nat) : Int) := by rw [IntKind.wrap_i64]; omega
      have HI : RowKit.Hid (k + 1 ≤ l.length) := Lib.hid hlt
      go_wp2_with fail
      go_quiet (fail)
      go_wp2_with fail
      refine ⟨⟨k + 1, congrArg (Value.int .i64) (by omega), HI.out, bdrewN HB.out nq⟩, ?_⟩
      simp only [intOf]
      omega
    · have hlt' : ¬ (k : Int) < l.length := by omega
      go_wp2_with fail
      show Q (.returned (.bool true)) _
      exact HQ.out _ HB.out
theorem sAll_len (s : ByteArray) : (scanAll s).1.length ≤ 65536 := by
  unfold scanAll
  split
  · simp
  · split
    · simp
    · split
      · simp
      · have := alls_len s 0
        simp only []
        omega
end Go.Proofs.YtelfobnmiphdnaaGreatDoor
namespace Go.Proofs.YtelfobnmiphdnaaGreatDoor
set_option linter.all false
attribute [local irreducible] wpStill
open Go.RowKit

/-- Does a line end behind a token, before these lexemes? -/
def endedL (s : ByteArray) : List Tok → Bool
  | [] => true
  | t :: r => if silentK t.1 then (if hasNl s t then true else endedL s r) else false
/-- The tokens of lexemes, by looking what stands behind each. -/
def putR (s : ByteArray) : List Tok → List Tok
  | [] => []
  | t :: r => if silentK t.1 then putR s r else t :: ((if endsK t.1 (s.extract t.2.1 t.2.2) && endedL s r then [(9, t.2.2, t.2.2)] else []) ++ putR s r)
theorem semi_put (s : ByteArray) : ∀ l : List Tok, semiRec s none l = putR s l ∧ ∀ e, semiRec s (some e) l = (if endedL s l then [(9, e, e)] else []) ++ putR s l
  | [] => ⟨rfl, fun e => rfl⟩
  | t :: r => by
    obtain ⟨h1, h2⟩ := semi_put s r
    by_cases hs : silentK t.1 = true
    · refine ⟨?_, fun e => ?_⟩
      · rw [semiRec_silent s t r hs, h1, putR, if_pos hs]
      · rw [semiRec, if_pos hs, endedL, if_pos hs, putR, if_pos hs]
        by_cases hn : hasNl s t = true
        · rw [if_pos hn, if_pos hn, if_pos rfl, h1]; rfl
        · rw [if_neg hn, if_neg hn, h2]
    · have key : semiRec s (if endsK t.1 (s.extract t.2.1 t.2.2) then some t.2.2 else none) r = (if endsK t.1 (s.extract t.2.1 t.2.2) && endedL s r then [(9, t.2.2, t.2.2)] else []) ++ putR s r := by
        cases endsK t.1 (s.extract t.2.1 t.2.2) with
        | true => rw [if_pos rfl, h2, Bool.true_and]
        | false => rw [if_neg (by decide), h1]; rfl
      refine ⟨?_, fun e => ?_⟩
      · rw [semiRec, if_neg hs, putR, if_neg hs, key]
      · rw [semiRec, if_neg hs, putR, if_neg hs, key, endedL, if_neg hs]; rfl
theorem putR_len (s : ByteArray) : ∀ l : List Tok, (putR s l).length ≤ 2 * l.length
  | [] => Nat.le_refl _
  | t :: r => by
    have ih := putR_len s r
    rw [putR]
    split
    · simp only [List.length_cons]; omega
    · rw [List.length_cons, List.length_append, List.length_cons]
      have : (if endsK t.1 (s.extract t.2.1 t.2.2) && endedL s r then [((9 : Int), t.2.2, t.2.2)] else []).length ≤ 1 := by split <;> simp
      omega
theorem nl_iff {s : ByteArray} {k : Int} {a e : Nat} (he : e ≤ s.size) : hasNl s (k, a, e) = true ↔ ∃ j, a ≤ j ∧ j < e ∧ bt s j = 10 := by
  have hm : ∀ l : List UInt8, 0 ≤ Lib.indexByte l 10 ↔ (10 : UInt8) ∈ l := by
    intro l
    induction l with
    | nil => simp [Lib.indexByte]
    | cons b t ih =>
      have hge := Lib.indexByte_ge t 10
      rw [Lib.indexByte]
      by_cases hb : b = 10
      · subst hb; simp
      · rw [if_neg (by simpa using hb)]
        have hcb : ¬ (10 : UInt8) = b := fun e => hb e.symm
        simp only [List.mem_cons, hcb, false_or]
        rw [← ih]
        by_cases hm : Lib.indexByte t 10 = -1
        · rw [hm]; simp
        · rw [if_neg (by simpa using hm)]; omega
  unfold hasNl
  rw [decide_eq_true_eq, hm]
  simp only []
  rw [extract_data]
  constructor
  · intro h
    obtain ⟨j, hj, hx⟩ := List.getElem_of_mem h
    rw [List.getElem_take, List.getElem_drop] at hx
    rw [List.length_take, List.length_drop, ← size_data] at hj
    refine ⟨a + j, by omega, by omega, ?_⟩
    unfold bt
    rw [get!_list, List.getD_eq_getElem?_getD, List.getElem?_eq_getElem (by rw [← size_data]; omega), Option.getD_some, hx]
    rfl
  · rintro ⟨j, h1, h2, h3⟩
    have hj : j < s.data.toList.length := by rw [← size_data]; omega
    unfold bt at h3
    rw [get!_list, List.getD_eq_getElem?_getD, List.getElem?_eq_getElem hj, Option.getD_some] at h3
    have h4 : s.data.toList[j] = 10 := UInt8.toNat_inj.1 (by rw [h3]; rfl)
    rw [← h4]
    refine List.mem_iff_getElem.2 ⟨j - a, by rw [List.length_take, List.length_drop]; omega, ?_⟩
    rw [List.getElem_take, List.getElem_drop]
    congr 1; omega
set_option maxRecDepth 100000 in
theorem ref_Silent (k : Int) (hk : 0 ≤ k ∧ k < 256) (w : World) :
    Calls Tryz.prog 16 #[.int .u8 k] w fun e w' => e = .returned (.bool (silentK k)) ∧ w = w' := by
  have HQ : RowKit.Hid (∀ x, silentK k = x → (fun (e : Ending) w' => e = .returned (.bool (silentK k)) ∧ w = w') (.returned (.bool x)) w) := Lib.hid fun x h => ⟨by rw [h], rfl⟩
  have HV : RowKit.Hid (silentK k = (k == 10 || k == 11 || k == 12)) := Lib.hid rfl
  generalize (fun (e : Ending) w' => e = .returned (.bool (silentK k)) ∧ w = w') = Q at *
  have h3 : (¬ (10 : Int) ≤ k) ∨ ((10 : Int) ≤ k ∧ k ≤ 12) ∨ ((10 : Int) ≤ k ∧ ¬ k ≤ 12) := by omega
  rcases h3 with h | ⟨h, h'⟩ | ⟨h, h'⟩
  · have HF := Lib.hid (show silentK k = false by rw [HV.out]; simp; omega)
    go_enter Tryz.func16, Tryz.ntmps16
    go_wp2_with fail
    exact HQ.out _ HF.out
  · have HF := Lib.hid (show silentK k = true by rw [HV.out]; simp; omega)
    go_enter Tryz.func16, Tryz.ntmps16
    go_wp2_with fail
    exact HQ.out _ HF.out
  · have HF := Lib.hid (show silentK k = false by rw [HV.out]; simp; omega)
    go_enter Tryz.func16, Tryz.ntmps16
    go_wp2_with fail
    exact HQ.out _ HF.out
set_option maxRecDepth 100000 in
set_option maxHeartbeats 4000000 in
theorem ref_ended (s : ByteArray) (hs : s.size ≤ 2147483647) (v : Value) (L : List Tok) (hL : L.length ≤ 200000) (hin : ∀ t ∈ L, t.2.1 ≤ t.2.2 ∧ t.2.2 ≤ s.size) (hkk : ∀ t ∈ L, 0 ≤ t.1 ∧ t.1 < 256) (i : Nat) (hi : i < L.length) (w : World) (hr : TR w v L) :
    Calls Tryz.prog 18 #[.string s, v, .int .i64 (i : Int)] w fun e w' => e = .returned (.bool (endedL s (L.drop (i + 1)))) ∧ w = w' := by
  have HQ : RowKit.Hid (∀ x, endedL s (L.drop (i + 1)) = x → (fun (e : Ending) w' => e = .returned (.bool (endedL s (L.drop (i + 1)))) ∧ w = w') (.returned (.bool x)) w) := Lib.hid fun x h => ⟨by rw [h], rfl⟩
  generalize (fun (e : Ending) w' => e = .returned (.bool (endedL s (L.drop (i + 1)))) ∧ w = w') = Q at *
  generalize hV : endedL s (L.drop (i + 1)) = V at *
  have HV := Lib.hid hV
  have HR := Lib.hid hr
  have HIN := Lib.hid hin
  have HKK := Lib.hid hkk
  obtain ⟨a1, cap1, rfl, hcap1, _⟩ := hr
  have hwi : IntKind.i64.wrap ((i : Int) + 1) = ((i + 1 : Nat) : Int) := by rw [IntKind.wrap_i64]; omega
  have hi1 : i + 1 ≤ L.length := hi
  clear hV hin hkk
  go_enter Tryz.func18, Tryz.ntmps18
  go_wp2_with fail
  go_loopw [7] (fun j wr => ∃ k : Nat, j = .int .i64 k ∧ k ≤ L.length ∧ RowKit.Hid (endedL s (L.drop k) = V) ∧ wr = w) (fun j _ => L.length - (intOf j).toNat)
  case atStart => exact ⟨i + 1, (by first | rfl | exact congrArg (Value.int .i64) (by omega)), hi1, HV, rfl⟩
  case round =>
    obtain ⟨k, rfl, hk, HK, rfl⟩ := hrel
    by_cases hlt : k < L.length
    · have hlt' : (k : Int) < L.length := by omega
      obtain ⟨b1, rfl, _, _, d0, d1, d2⟩ := HR.out.at (Below.refl _ _) hlt
      have hin := HIN.out L[k] (List.getElem_mem hlt)
      have hkk := HKK.out L[k] (List.getElem_mem hlt)
      have hdk := HK.out
      rw [List.drop_eq_getElem_cons hlt, endedL] at hdk
      generalize L[k] = t at *
      obtain ⟨kk, ff, tt⟩ := t
      simp only [] at hin hkk d0 d1 d2 hdk
      have hk0 : (0 : Int) ≤ k := by omega
      have hkc : (k : Int) < cap1 := by omega
      have hwk : IntKind.i64.wrap ((k : Int) + 1) = ((k + 1 : Nat) : Int) := by rw [IntKind.wrap_i64]; omega
      have HK1 : RowKit.Hid (k + 1 ≤ L.length) := Lib.hid hlt
      have HML : RowKit.Hid (L.length - (k + 1) < L.length - k) := Lib.hid (by omega)
      have CS := ref_Silent kk hkk wr
      clear HK
      cases hsl : silentK kk with
      | false =>
        rw [hsl] at CS hdk
        have CS := Lib.hid CS
        have HF := Lib.hid (show V = false by rw [← hdk]; rfl)
        clear hdk hsl
        go_wp2_with fail
        refine CS.out.mono ?_
        rintro e w2 ⟨rfl, rfl⟩
        go_wp2_with fail
        exact HQ.out _ HF.out
      | true =>
        rw [hsl] at CS hdk
        have CS := Lib.hid CS
        rw [if_pos rfl] at hdk
        have HDK := Lib.hid hdk
        have HNL := Lib.hid (@nl_iff s kk ff tt hin.2)
        obtain ⟨g1, g2⟩ := hin
        clear hdk hsl
        go_wp2_with fail
        refine CS.out.mono ?_
        rintro e w2 ⟨rfl, rfl⟩
        go_wp2_with fail
        go_loopw [8] (fun j wr2 => ∃ c : Nat, j = .int .i64 c ∧ ff ≤ c ∧ c ≤ tt ∧ RowKit.Hid (∀ x, ff ≤ x → x < c → bt s x ≠ 10) ∧ wr2 = wr) (fun j _ => tt - (intOf j).toNat)
        case atStart => exact ⟨ff, rfl, Nat.le_refl _, g1, Lib.hid (fun x h1 h2 => by omega), rfl⟩
        case round =>
          obtain ⟨c, rfl, hc1, hc2, HNO, rfl⟩ := hrel
          by_cases hcl : c < tt
          · have hcl' : (c : Int) < tt := by omega
            have hcs : (c : Int) < s.size := by omega
            have hc0 : (0 : Int) ≤ c := by omega
            have yc := bt_at s c (by omega)
            have hwc : IntKind.i64.wrap ((c : Int) + 1) = ((c + 1 : Nat) : Int) := by rw [IntKind.wrap_i64]; omega
            by_cases h10 : bt s c = 10
            · have HF := Lib.hid (show V = true by rw [← HDK.out, HNL.out.2 ⟨c, hc1, hcl, h10⟩]; rfl)
              rw [h10] at yc
              clear h10
              go_wp2_with fail
              exact HQ.out _ HF.out
            · have HN2 : RowKit.Hid (∀ x, ff ≤ x → x < c + 1 → bt s x ≠ 10) := Lib.hid fun x h1 h2 => by
                rcases Nat.lt_or_ge x c with q | q
                · exact HNO.out x h1 q
                · obtain rfl : x = c := by omega
                  exact h10
              have h10b : ((bt s c : Int) == 10) = false := by rw [beq_eq_false_iff_ne]; omega
              have HC1 : RowKit.Hid (ff ≤ c + 1 ∧ c + 1 ≤ tt) := Lib.hid (by omega)
              clear h10 HNO
              generalize bt s c = cc at *
              go_wp2_with fail
              refine ⟨⟨c + 1, congrArg (Value.int .i64) (by omega), HC1.out.1, HC1.out.2, HN2, (by first | trivial | rfl)⟩, ?_⟩
              simp only [intOf]
              omega
          · have hcl' : ¬ (c : Int) < tt := by omega
            have hnn : hasNl s (kk, ff, tt) = false := by
              cases g : hasNl s (kk, ff, tt) with
              | false => rfl
              | true =>
                obtain ⟨x, x1, x2, x3⟩ := HNL.out.1 g
                exact absurd x3 (HNO.out x x1 (by omega))
            have HT : RowKit.Hid (endedL s (L.drop (k + 1)) = V) := Lib.hid (by rw [← HDK.out, hnn]; rfl)
            clear hnn HNO
            go_wp2_with fail
            refine ⟨⟨k + 1, congrArg (Value.int .i64) (by omega), HK1.out, HT, (by first | trivial | rfl)⟩, ?_⟩
            have := HML.out
            simp only [intOf]
            omega
    · have hlt' : ¬ (k : Int) < L.length := by omega
      have HF : RowKit.Hid (V = true) := Lib.hid (by rw [← HK.out, List.drop_of_length_le (by omega)]; rfl)
      go_wp2_with fail
      exact HQ.out _ HF.out
/-- What holds at the loop's head. -/
def puRel (s : ByteArray) (W0 : World) (L : List Tok) (v i : Value) (wr : World) : Prop :=
  ∃ (k : Nat) (l : List Tok), i = .int .i64 k ∧ k ≤ L.length ∧ putR s L = l ++ putR s (L.drop k) ∧ Below W0.heap.size W0 wr ∧ wr.ownsRow W0.heap.size 41 3 v l.length (toksV l)
set_option maxRecDepth 100000 in
set_option maxHeartbeats 8000000 in
theorem ref_Of08 (s : ByteArray) (hs : s.size ≤ 2147483647) (w : World) :
    Calls Tryz.prog 11 #[.string s] w (allPost (semiAll s) w) := by
  have HQ : RowKit.Hid (∀ w' v l e a, semiAll s = (l, e, a) → Below w.heap.size w w' → w'.ownsRow w.heap.size 41 3 v l.length (toksV l) → allPost (semiAll s) w (.returned (.tuple #[v, .agg #[.int .i64 e, .int .i64 a]])) w') := Lib.hid fun w' v l e a h h2 h3 => by
    unfold allPost; rw [h]; exact ⟨v, rfl, h2, h3⟩
  have HREC := Lib.hid (semiAll_rec s)
  have HPUT := Lib.hid (semi_put s)
  have HBAD : RowKit.Hid (¬ ((scanAll s).2.1 = 0 ∧ (scanAll s).2.2 = 0) → semiAll s = ([], (scanAll s).2.1, (scanAll s).2.2)) := Lib.hid fun h => by unfold semiAll; rw [if_neg h]
  have HER := Lib.hid (scanAll_err s)
  have HINL := Lib.hid (scanAll_in s)
  have HKL := Lib.hid (scanAll_kind s)
  have HLN := scanAll_len s
  generalize allPost (semiAll s) w = Q at *
  have CA := Lib.hid (fun w' => ref_All07 s hs w')
  have HF : RowKit.Hid (∀ (tm : Array Value) W' v l e a, semiAll s = (l, e, a) → Below w.heap.size w W' → W'.ownsRow w.heap.size 41 3 v l.length (toksV l) → FK W' w.heap.size e a → tm.getD 3 undef = .pointer (some ⟨w.heap.size, 0, none⟩) → tm.getD 2 undef = v → bodyPost Tryz.prog Tryz.f11 Q .ret ⟨tm, []⟩ W') :=
    Lib.hid fun tm W' v l e a h1 h2 h3 h4 h5 h6 => by
      refine bodyPost_ret (results_tmp_cell rfl tm W' w.heap.size 27 #[.int .i64 e, .int .i64 a] (0, 0) _ h5 h4 Tryz.underlying27 rfl (by kernel_rfl)) rfl ?_
      rw [h6]
      exact HQ.out W' v l e a h1 h2 h3
  have hT4 : FK (w.alloc (.cells #[.int .i64 0, .int .i64 0] 27)) w.heap.size 0 0 := by
    unfold FK; exact heap_alloc_new _ _
  have hbW : Below w.heap.size w (w.alloc (.cells #[.int .i64 0, .int .i64 0] 27)) := (Below.refl _ _).alloc (Nat.le_refl _) _
  have H4 := Lib.hid hT4
  have HBW := Lib.hid hbW
  clear hT4 hbW
  go_enter Tryz.func11, Tryz.ntmps11
  go_wp2_with fail
  refine (CA.out _).mono ?_
  intro e w1 h1
  unfold allPost at h1
  generalize scanAll s = q1 at *
  obtain ⟨L, er, ea⟩ := q1
  simp only [] at *
  obtain ⟨v1, rfl, hb1, ho1⟩ := h1
  have HB1 := Lib.hid (bthen HBW.out hb1)
  have H41 := Lib.hid ((H4.out.keep hb1).alloc (.cells #[.int .i64 er, .int .i64 ea] 27))
  have HR1 := Lib.hid (TR.of_owns ho1)
  obtain ⟨a1, cap1, rfl, hcap1, _⟩ := HR1.out
  have HF1 : RowKit.Hid (FK (w1.alloc (.cells #[.int .i64 er, .int .i64 ea] 27)) w1.heap.size er ea) := Lib.hid (by unfold FK; exact heap_alloc_new _ _)
  have HA1 : RowKit.Hid (Below w1.heap.size w1 (w1.alloc (.cells #[.int .i64 er, .int .i64 ea] 27))) := Lib.hid ((Below.refl _ _).alloc (Nat.le_refl _) _)
  have hlt1 : w.heap.size < w1.heap.size := by
    have := hb1.size
    have h2 : (w.alloc (.cells #[.int .i64 0, .int .i64 0] 27)).heap.size = w.heap.size + 1 := by simp
    omega
  clear hb1 ho1 CA
  have f0 := HF1.out.c0; have f1 := HF1.out.c1
  by_cases her : er = 0
  · obtain rfl := HER.out her
    subst her
    have hv0 := HREC.out ⟨rfl, rfl⟩
    rw [(HPUT.out L).1] at hv0
    have HV := Lib.hid hv0
    have HR2 := Lib.hid (HR1.out.below HA1.out)
    have HB2 := Lib.hid (bthen HB1.out HA1.out)
    have HIN2 : RowKit.Hid (∀ t ∈ L, t.2.1 ≤ t.2.2 ∧ t.2.2 ≤ s.size) := Lib.hid fun t ht => by have := HINL.out t ht; omega
    have HLT : RowKit.Hid (w.heap.size < (w1.alloc (.cells #[.int .i64 0, .int .i64 0] 27)).heap.size) := Lib.hid (by simp; omega)
    clear hv0 HREC HBAD HER HINL HR1 HB1
    go_wp2_with fail
    clear f0 f1 HF1
    generalize w1.alloc (.cells #[.int .i64 0, .int .i64 0] 27) = W0 at *
    go_loopw [6, 7] (fun v i wr => puRel s W0 L v i wr) (fun _ i _ => L.length - (intOf i).toNat)
    case atStart => exact ⟨0, [], rfl, Nat.zero_le _, rfl, Below.refl _ _, World.ownsRow_nil _ _ _ _⟩
    case round =>
      obtain ⟨k, l, rfl, hk, hp, hb, ho⟩ := hrel
      obtain ⟨va, vm, vc, rfl⟩ := owns_slice ho
      have HB := Lib.hid hb
      have HO := Lib.hid ho
      have HP := Lib.hid hp
      have hlen : l.length ≤ 131072 := by
        have := putR_len s L
        rw [hp, List.length_append] at this; omega
      clear hb ho hp
      by_cases hlt : k < L.length
      · have hlt' : (k : Int) < L.length := by omega
        obtain ⟨b1, rfl, _, _, d0, d1, d2⟩ := HR2.out.at HB.out hlt
        have hin := HIN2.out L[k] (List.getElem_mem hlt)
        have hkk := HKL.out L[k] (List.getElem_mem hlt)
        have hpk := HP.out
        rw [List.drop_eq_getElem_cons hlt, putR] at hpk
        have HAT := Lib.hid (fun w' (hb : Below W0.heap.size W0 w') => HR2.out.at hb hlt)
        have CD := Lib.hid (fun W (hb : Below W0.heap.size W0 W) => ref_ended s hs _ L (by omega) HIN2.out HKL.out k hlt W (HR2.out.below hb))
        generalize L[k] = t at *
        obtain ⟨kk, ff, tt⟩ := t
        simp only [] at hin hkk d0 d1 d2 hpk HAT
        have CS := ref_Silent kk hkk wr
        have CE := Lib.hid (fun W => ref_Ends08 kk hkk (s.extract ff tt) W)
        have hk0 : (0 : Int) ≤ k := by omega
        have hkc : (k : Int) < cap1 := by omega
        have hwk : IntKind.i64.wrap ((k : Int) + 1) = ((k + 1 : Nat) : Int) := by rw [IntKind.wrap_i64]; omega
        have HK1 : RowKit.Hid (k + 1 ≤ L.length) := Lib.hid hlt
        have HML : RowKit.Hid (L.length - (k + 1) < L.length - k) := Lib.hid (by omega)
        have q1 : (ff : Int) ≤ tt := by omega
        have q2 : (tt : Int) ≤ s.size := by omega
        have q3 : (0 : Int) ≤ ff := by omega
        have hbs := HB.out.size
        cases hsl : silentK kk with
        | true =>
          rw [hsl] at CS hpk
          rw [if_pos rfl] at hpk
          have CS := Lib.hid CS
          have HPK := Lib.hid hpk
          clear hpk hsl CE CD
          go_wp2_with fail
          refine CS.out.mono ?_
          rintro e w2 ⟨rfl, rfl⟩
          have HR : RowKit.Hid (puRel s W0 L (.slice va vm vc) (.int .i64 (k + 1 : Nat)) wr) := Lib.hid ⟨k + 1, l, rfl, HK1.out, HPK.out, HB.out, HO.out⟩
          go_wp2_with fail
          refine ⟨?_, (by have := HML.out; simp [intOf]; try omega)⟩
          first
            | exact HR.out
            | (repeat apply Exists.intro
               refine ⟨?_, rfl⟩
               exact HR.out)
        | false =>
          rw [hsl] at CS hpk
          rw [if_neg (by decide)] at hpk
          have CS := Lib.hid CS
          have HPK := Lib.hid hpk
          clear hpk hsl
          go_wp2_with fail
          refine CS.out.mono ?_
          rintro e w2 ⟨rfl, rfl⟩
          go_wp2_with (at_builtin; refine wpList_append_lit wr #[.int .u8 kk, .int .i64 (ff : Int), .int .i64 (tt : Int)] _ rfl _ _ 23 41 rfl Tryz.underlying23 W0.heap.size info_tok rfl (by decide) _ _ _ rfl HO.out 1 1 rfl rfl (by decide) (by intro u hu; simp at hu; rcases hu with rfl | rfl | rfl <;> rfl) (by omega) (by omega) hbs ?_)
          intro v' w3 hown hgr _
          have hb3 := grown_below HB.out hbs HO.out hgr
          have HO3 : RowKit.Hid (w3.ownsRow W0.heap.size 41 3 v' (l ++ [(kk, ff, tt)]).length (toksV (l ++ [(kk, ff, tt)]))) := Lib.hid (by rw [List.length_append, toksV_snoc]; exact hown)
          have HB3 := Lib.hid hb3
          clear hown hgr hb3 d0 d1 d2 HO HB
          obtain ⟨b1', hbb, _, _, d0, d1, d2⟩ := HAT.out _ HB3.out
          simp only [Option.some.injEq, Addr.mk.injEq, and_true] at hbb
          subst hbb
          obtain ⟨vb, vn, vd, rfl⟩ := owns_slice HO3.out
          have HBd := Lib.hid (Below.refl w3.heap.size w3).drew
          have HS : RowKit.Hid (∀ W', Below w3.heap.size w3 W' → (W'.cell? { block := b1, off := k * 3 } = some (Value.int IntKind.u8 kk) ∧ W'.cell? { block := b1, off := k * 3 + 1 } = some (Value.int IntKind.i64 (ff : Int)) ∧ W'.cell? { block := b1, off := k * 3 + 2 } = some (Value.int IntKind.i64 (tt : Int)) ∧ RowKit.Hid (Below w3.heap.size w3 W'))) := Lib.hid fun W' g => by
            obtain ⟨b1', hbb, _, _, x0, x1, x2⟩ := HAT.out _ (bthen HB3.out g)
            simp only [Option.some.injEq, Addr.mk.injEq, and_true] at hbb
            subst hbb
            exact ⟨x0, x1, x2, Lib.hid g⟩
          have CD3 := Lib.hid (fun W (hb : Below w3.heap.size w3 W) => CD.out W (bthen HB3.out hb))
          have hbs3 := HB3.out.size
          have hlen3 : (l ++ [(kk, ff, tt)]).length ≤ 131073 := by simp; omega
          clear CD CS HAT hbs
          generalize endsK kk (s.extract ff tt) = ek at *
          generalize endedL s (L.drop (k + 1)) = ed at *
          cases ek with
          | false =>
            have HPN : RowKit.Hid (putR s L = (l ++ [(kk, ff, tt)]) ++ putR s (L.drop (k + 1))) := Lib.hid (by rw [HPK.out]; simp)
            clear HPK
            go_wp2_with fail
            refine wp_region_held_drew (S := fun W' => W'.cell? { block := b1, off := k * 3 } = some (Value.int IntKind.u8 kk) ∧ W'.cell? { block := b1, off := k * 3 + 1 } = some (Value.int IntKind.i64 (ff : Int)) ∧ W'.cell? { block := b1, off := k * 3 + 2 } = some (Value.int IntKind.i64 (tt : Int)) ∧ RowKit.Hid (Below w3.heap.size w3 W')) (by kernel_rfl) (HS.out _ HBd.out) (fun hHeld => ?_)
            refine wpAnyH_take (i := 0) (oi := _) (v := ?v0) rfl (by kernel_rfl) (by kernel_rfl) (by kernel_rfl) (fun _ _ _ h => h) (Or.inl ⟨by rfl, ?hy0⟩) hHeld ?rest0
            case hy0 => intro w hSw; (try dsimp only at hSw); go_simp; (try with_reducible rfl)
            (try simp only [Act.put, List.setIfInBounds_toArray, List.set_cons_zero, List.set_cons_succ])
            refine wpAnyH_take (i := 1) (oi := _) (v := ?v1) rfl (by kernel_rfl) (by kernel_rfl) (by kernel_rfl) (fun _ _ _ h => h) (Or.inl ⟨by rfl, ?hy1⟩) hHeld ?rest1
            case hy1 => intro w hSw; (try dsimp only at hSw); go_simp; (try with_reducible rfl)
            (try simp only [Act.put, List.setIfInBounds_toArray, List.set_cons_zero, List.set_cons_succ])
            refine wpAnyH_take (i := 2) (oi := _) (v := ?v2) rfl (by kernel_rfl) (by kernel_rfl) (by kernel_rfl) (fun _ _ _ h => h) (Or.inl ⟨by rfl, ?hy2⟩) hHeld ?rest2
            case hy2 => intro w hSw; (try dsimp only at hSw); go_simp; (try with_reducible rfl)
            (try simp only [Act.put, List.setIfInBounds_toArray, List.set_cons_zero, List.set_cons_succ])
            refine wpAnyH_take (i := 3) (oi := _) (v := ?v3) rfl (by kernel_rfl) (by kernel_rfl) (by kernel_rfl) (fun _ _ _ h => h) (Or.inl ⟨by rfl, ?hy3⟩) hHeld ?rest3
            case hy3 => intro w hSw; (try dsimp only at hSw); go_simp; (try with_reducible rfl)
            (try simp only [Act.put, List.setIfInBounds_toArray, List.set_cons_zero, List.set_cons_succ])
            refine wpAnyH_take (i := 4) (oi := _) (v := ?v4) rfl (by kernel_rfl) (by kernel_rfl) (by kernel_rfl) (fun _ _ _ h => h) (Or.inl ⟨by rfl, ?hy4⟩) hHeld ?rest4
            case hy4 => intro w hSw; (try dsimp only at hSw); go_simp; (try with_reducible rfl)
            (try simp only [Act.put, List.setIfInBounds_toArray, List.set_cons_zero, List.set_cons_succ])
            refine wpAnyH_take (i := 5) (oi := _) (v := ?v5) rfl (by kernel_rfl) (by kernel_rfl) (by kernel_rfl) (fun _ _ _ h => h) (Or.inl ⟨by rfl, ?hy5⟩) hHeld ?rest5
            case hy5 => intro w hSw; (try dsimp only at hSw); go_simp; (try with_reducible rfl)
            (try simp only [Act.put, List.setIfInBounds_toArray, List.set_cons_zero, List.set_cons_succ])
            refine wpAnyH_take (i := 6) (oi := _) (v := ?v6) rfl (by kernel_rfl) (by kernel_rfl) (by kernel_rfl) (fun _ _ _ h => h) (Or.inl ⟨by rfl, ?hy6⟩) hHeld ?rest6
            case hy6 => intro w hSw; (try dsimp only at hSw); go_simp; (try with_reducible rfl)
            (try simp only [Act.put, List.setIfInBounds_toArray, List.set_cons_zero, List.set_cons_succ])
            refine wpAnyH_take (i := 7) (oi := _) (v := ?v7) rfl (by kernel_rfl) (by kernel_rfl) (by kernel_rfl) (fun _ _ _ h => h) (Or.inl ⟨by rfl, ?hy7⟩) hHeld ?rest7
            case hy7 => intro w hSw; (try dsimp only at hSw); go_simp; (try with_reducible rfl)
            (try simp only [Act.put, List.setIfInBounds_toArray, List.set_cons_zero, List.set_cons_succ])
            refine wpAnyH_take (i := 8) (oi := _) (v := ?v8) rfl (by kernel_rfl) (by kernel_rfl) (by kernel_rfl) (fun _ _ _ h => h) (Or.inl ⟨by rfl, ?hy8⟩) hHeld ?rest8
            case hy8 => intro w hSw; (try dsimp only at hSw); go_simp; (try with_reducible rfl)
            (try simp only [Act.put, List.setIfInBounds_toArray, List.set_cons_zero, List.set_cons_succ])
            refine wpAnyH_take (i := 9) (oi := _) (v := ?v9) rfl (by kernel_rfl) (by kernel_rfl) (by kernel_rfl) (fun _ _ _ h => h) (Or.inl ⟨by rfl, ?hy9⟩) hHeld ?rest9
            case hy9 => intro w hSw; (try dsimp only at hSw); go_simp; (try with_reducible rfl)
            (try simp only [Act.put, List.setIfInBounds_toArray, List.set_cons_zero, List.set_cons_succ])
            refine wpAnyH_take (i := 10) (oi := _) (v := ?v10) rfl (by kernel_rfl) (by kernel_rfl) (by kernel_rfl) (fun _ _ _ h => h) (Or.inl ⟨by rfl, ?hy10⟩) hHeld ?rest10
            case hy10 => intro w hSw; (try dsimp only at hSw); go_simp; (try with_reducible rfl)
            (try simp only [Act.put, List.setIfInBounds_toArray, List.set_cons_zero, List.set_cons_succ])
            refine wpAnyH_take (i := 11) (oi := _) (v := ?v11) rfl (by kernel_rfl) (by kernel_rfl) (by kernel_rfl) (fun _ _ _ h => h) (Or.inl ⟨by rfl, ?hy11⟩) hHeld ?rest11
            case hy11 => intro w hSw; (try dsimp only at hSw); go_simp; (try with_reducible rfl)
            (try simp only [Act.put, List.setIfInBounds_toArray, List.set_cons_zero, List.set_cons_succ])
            refine wpAnyH_take (i := 12) (oi := _) (v := ?v12) rfl (by kernel_rfl) (by kernel_rfl) (by kernel_rfl) (fun _ _ _ h => h) (Or.inl ⟨by rfl, ?hy12⟩) hHeld ?rest12
            case hy12 => intro w hSw; (try dsimp only at hSw); go_simp; (try with_reducible rfl)
            (try simp only [Act.put, List.setIfInBounds_toArray, List.set_cons_zero, List.set_cons_succ])
            refine wpAnyH_take (i := 13) (oi := _) (v := ?v13) rfl (by kernel_rfl) (by kernel_rfl) (by kernel_rfl) (fun _ _ _ h => h) (Or.inl ⟨by rfl, ?hy13⟩) hHeld ?rest13
            case hy13 => intro w hSw; (try dsimp only at hSw); go_simp; (try with_reducible rfl)
            (try simp only [Act.put, List.setIfInBounds_toArray, List.set_cons_zero, List.set_cons_succ])
            refine wpAnyH_take (i := 14) (oi := _) (v := ?v14) rfl (by kernel_rfl) (by kernel_rfl) (by kernel_rfl) (fun _ _ _ h => h) (Or.inl ⟨by rfl, ?hy14⟩) hHeld ?rest14
            case hy14 => intro w hSw; (try dsimp only at hSw); go_simp; (try with_reducible rfl)
            (try simp only [Act.put, List.setIfInBounds_toArray, List.set_cons_zero, List.set_cons_succ])
            refine wpAnyH_take (i := 15) (oi := _) (v := ?v15) rfl (by kernel_rfl) (by kernel_rfl) (by kernel_rfl) (fun _ _ _ h => h) (Or.inl ⟨by rfl, ?hy15⟩) hHeld ?rest15
            case hy15 => intro w hSw; (try dsimp only at hSw); go_simp; (try with_reducible rfl)
            (try simp only [Act.put, List.setIfInBounds_toArray, List.set_cons_zero, List.set_cons_succ])
            refine wpAnyH_take (i := 16) (oi := _) (v := ?v16) rfl (by kernel_rfl) (by kernel_rfl) (by kernel_rfl) (fun _ _ _ h => h) (Or.inl ⟨by rfl, ?hy16⟩) hHeld ?rest16
            case hy16 => intro w hSw; (try dsimp only at hSw); go_simp; (try with_reducible rfl)
            (try simp only [Act.put, List.setIfInBounds_toArray, List.set_cons_zero, List.set_cons_succ])
            refine wpAnyH_ready (rs := [17]) (by kernel_rfl) (by simp) ?_
            refine AllReadyH.cons (o := _) rfl (fun K hK => ?_) AllReadyH.nil
            go_simp
            go_at_call 17
            refine (CE.out _).mono ?_
            rintro e wE ⟨rfl, hbE⟩
            (try dsimp only)
            refine hK.out _ _ (HS.out _ (bthen HBd.out hbE)) (fun hHeld2 => ?_)
            clear hK K hHeld
            (try simp only [Act.put, List.setIfInBounds_toArray, List.set_cons_zero, List.set_cons_succ])
            refine wpAnyH_take (i := 18) (oi := _) (v := ?v18) rfl (by kernel_rfl) (by kernel_rfl) (by kernel_rfl) (fun _ _ _ h => h) (Or.inl ⟨by rfl, ?hy18⟩) hHeld2 ?rest18
            case hy18 => intro w hSw; (try dsimp only at hSw); go_simp; (try with_reducible rfl)
            (try simp only [Act.put, List.setIfInBounds_toArray, List.set_cons_zero, List.set_cons_succ])
            refine wpAnyH_take (i := 19) (oi := _) (v := undef) rfl (by kernel_rfl) (by kernel_rfl) (by kernel_rfl) (fun _ _ _ h => h) (Or.inr ⟨by rfl, rfl⟩) hHeld2 ?_
            (try simp only [Act.put, List.setIfInBounds_toArray, List.set_cons_zero, List.set_cons_succ])
            refine wpAnyH_take (i := 20) (oi := _) (v := undef) rfl (by kernel_rfl) (by kernel_rfl) (by kernel_rfl) (fun _ _ _ h => h) (Or.inr ⟨by rfl, rfl⟩) hHeld2 ?_
            (try simp only [Act.put, List.setIfInBounds_toArray, List.set_cons_zero, List.set_cons_succ])
            refine wpAnyH_take (i := 21) (oi := _) (v := undef) rfl (by kernel_rfl) (by kernel_rfl) (by kernel_rfl) (fun _ _ _ h => h) (Or.inr ⟨by rfl, rfl⟩) hHeld2 ?_
            (try simp only [Act.put, List.setIfInBounds_toArray, List.set_cons_zero, List.set_cons_succ])
            refine wpAnyH_ready (rs := [22]) (by kernel_rfl) (by simp) ?_
            refine AllReadyH.cons (o := _) rfl (fun K hK => ?_) AllReadyH.nil
            rw [if_neg]
            rotate_left
            · exact fun h => Bool.noConfusion (h.symm.trans (by rfl : _ = false))
            refine hK.out _ _ hHeld2 (fun hHeld3 => ?_)
            clear hK K hHeld2
            (try simp only [Act.put, List.setIfInBounds_toArray, List.set_cons_zero, List.set_cons_succ])
            refine wpAnyH_take (i := 23) (oi := _) (v := ?v23) rfl (by kernel_rfl) (by kernel_rfl) (by kernel_rfl) (fun _ _ _ h => h) (Or.inl ⟨by rfl, ?hy23⟩) hHeld3 ?rest23
            case hy23 => intro w hSw; (try dsimp only at hSw); go_simp; (try with_reducible rfl)
            (try simp only [Act.put, List.setIfInBounds_toArray, List.set_cons_zero, List.set_cons_succ])
            refine wpAnyH_done (by kernel_rfl) ?_ _
            clear d0 d1 d2
            obtain ⟨d0, d1, d2, HBN⟩ := hHeld3
            have HB4 := Lib.hid (bthen HB3.out HBN.out)
            have HO4 := Lib.hid (owns_below HO3.out HBN.out)
            clear HO3 HB3 HBN HS CE CD3 HBd hbE d0 d1 d2
            have HR : RowKit.Hid (puRel s W0 L (.slice vb vn vd) (.int .i64 (k + 1 : Nat)) _) := Lib.hid ⟨k + 1, l ++ [(kk, ff, tt)], rfl, HK1.out, HPN.out, HB4.out, HO4.out⟩
            go_wp2_with fail
            refine ⟨?_, (by have := HML.out; simp [intOf]; try omega)⟩
            first
              | exact HR.out
              | (repeat apply Exists.intro
                 refine ⟨?_, rfl⟩
                 exact HR.out)
          | true =>
            cases ed with
            | false =>
              have HPN : RowKit.Hid (putR s L = (l ++ [(kk, ff, tt)]) ++ putR s (L.drop (k + 1))) := Lib.hid (by rw [HPK.out]; simp)
              clear HPK
              go_wp2_with fail
              go_region_held3 (fun W' => W'.cell? { block := b1, off := k * 3 } = some (Value.int IntKind.u8 kk) ∧ W'.cell? { block := b1, off := k * 3 + 1 } = some (Value.int IntKind.i64 (ff : Int)) ∧ W'.cell? { block := b1, off := k * 3 + 2 } = some (Value.int IntKind.i64 (tt : Int)) ∧ RowKit.Hid (Below w3.heap.size w3 W'))
                (first
                  | exact HS.out _ HBd.out
                  | exact HS.out _ (bthen HBd.out hbE))
                (first
                  | (go_at_call 17; refine (CE.out _).mono ?_; rintro e wE ⟨rfl, hbE⟩; (try dsimp only))
                  | (go_at_call 18; refine (CD3.out _ (bthen HBd.out hbE)).mono ?_; rintro e wD ⟨rfl, rfl⟩; (try dsimp only)))
              rename_i hH
              clear d0 d1 d2
              obtain ⟨d0, d1, d2, HBN⟩ := hH
              have HB4 := Lib.hid (bthen HB3.out HBN.out)
              have HO4 := Lib.hid (owns_below HO3.out HBN.out)
              clear HO3 HB3 HBN HS CE CD3 HBd hbE d0 d1 d2
              have HR : RowKit.Hid (puRel s W0 L (.slice vb vn vd) (.int .i64 (k + 1 : Nat)) _) := Lib.hid ⟨k + 1, l ++ [(kk, ff, tt)], rfl, HK1.out, HPN.out, HB4.out, HO4.out⟩
              go_wp2_with fail
              refine ⟨?_, (by have := HML.out; simp [intOf]; try omega)⟩
              first
                | exact HR.out
                | (repeat apply Exists.intro
                   refine ⟨?_, rfl⟩
                   exact HR.out)
            | true =>
              have HPN : RowKit.Hid (putR s L = (l ++ [(kk, ff, tt)] ++ [(9, tt, tt)]) ++ putR s (L.drop (k + 1))) := Lib.hid (by rw [HPK.out]; simp)
              clear HPK
              go_wp2_with fail
              go_region_held3 (fun W' => W'.cell? { block := b1, off := k * 3 } = some (Value.int IntKind.u8 kk) ∧ W'.cell? { block := b1, off := k * 3 + 1 } = some (Value.int IntKind.i64 (ff : Int)) ∧ W'.cell? { block := b1, off := k * 3 + 2 } = some (Value.int IntKind.i64 (tt : Int)) ∧ RowKit.Hid (Below w3.heap.size w3 W'))
                (first
                  | exact HS.out _ HBd.out
                  | exact HS.out _ (bthen HBd.out hbE))
                (first
                  | (go_at_call 17; refine (CE.out _).mono ?_; rintro e wE ⟨rfl, hbE⟩; (try dsimp only))
                  | (go_at_call 18; refine (CD3.out _ (bthen HBd.out hbE)).mono ?_; rintro e wD ⟨rfl, rfl⟩; (try dsimp only)))
              rename_i hH
              clear d0 d1 d2
              obtain ⟨d0, d1, d2, HBN⟩ := hH
              have HB4 := Lib.hid (bthen HB3.out HBN.out)
              have HO4 := Lib.hid (owns_below HO3.out HBN.out)
              have hbs4 := HB4.out.size
              clear HO3 HB3 HBN HS CE CD3 HBd
              go_wp2_with fail
              refine wp_region_still_tailF 11 (.slice vb vn vd) (by kernel_rfl) (by kernel_rfl) (fun _ _ _ h => h) (Or.inl ⟨by rfl, by intro w; go_simp⟩) ?_
              simp only [List.take_succ_cons, List.take_zero, List.drop_succ_cons, List.drop_zero]
              repeat still_step
              try refine wpStill_nil ?_
              change wpList _ _ _ _ _ (World.drew _)
              have HO5 := Lib.hid (owns_below HO4.out ((Below.refl _ _).drew))
              have HB5 := Lib.hid HB4.out.drew
              clear HO4 HB4 d0 d1 d2 hbE
              generalize World.drew _ = W5 at *
              have hbs5 := HB5.out.size
              go_wp2_with (at_builtin; refine wpList_append_lit W5 #[.int .u8 9, .int .i64 (tt : Int), .int .i64 (tt : Int)] _ rfl _ _ 23 41 rfl Tryz.underlying23 W0.heap.size info_tok rfl (by decide) _ _ _ rfl HO5.out 1 1 rfl rfl (by decide) (by intro u hu; simp at hu; rcases hu with rfl | rfl | rfl <;> rfl) (by omega) (by omega) hbs5 ?_)
              intro v2 w6 hown hgr _
              have hb6 := grown_below HB5.out hbs5 HO5.out hgr
              have HO6 : RowKit.Hid (w6.ownsRow W0.heap.size 41 3 v2 (l ++ [(kk, ff, tt)] ++ [(9, tt, tt)]).length (toksV (l ++ [(kk, ff, tt)] ++ [(9, tt, tt)]))) := Lib.hid (by rw [show (l ++ [(kk, ff, tt)] ++ [((9 : Int), tt, tt)]).length = l.length + 1 + 1 by simp, toksV_snoc]; exact hown)
              have HB6 := Lib.hid hb6
              clear hown hgr hb6
              have HR : RowKit.Hid (puRel s W0 L v2 (.int .i64 (k + 1 : Nat)) _) := Lib.hid ⟨k + 1, l ++ [(kk, ff, tt)] ++ [(9, tt, tt)], rfl, HK1.out, HPN.out, HB6.out, HO6.out⟩
              go_wp2_with fail
              refine ⟨?_, (by have := HML.out; simp [intOf]; try omega)⟩
              first
                | exact HR.out
                | (repeat apply Exists.intro
                   refine ⟨?_, rfl⟩
                   exact HR.out)
      · have hlt' : ¬ (k : Int) < L.length := by omega
        have hpl : putR s L = l := by
          have := HP.out
          rw [List.drop_of_length_le (by omega), putR, List.append_nil] at this
          exact this
        have HVL := Lib.hid (show semiAll s = (l, 0, 0) by rw [HV.out, hpl])
        have HFK := Lib.hid (H41.out.keep HB.out)
        clear HV hpl HP
        have z40 := HFK.out.fz 0; have z41 := HFK.out.fz 1; have c40 := HFK.out.c0; have c41 := HFK.out.c1
        have hnf : (Value.slice va vm vc).ownBlock ≠ some w.heap.size := fun e => by
          have := HO.out.lt _ e
          have := HLT.out
          omega
        have HNF := Lib.hid hnf
        clear hnf
        go_wp2_with fail
        refine HF.out _ _ _ l 0 0 HVL.out (below_fill2 (bthen HB2.out HB.out) (Nat.le_refl _) _ _) (owns_mono (ownsRow_setCell_other (ownsRow_setCell_other HO.out (a := ⟨w.heap.size, 0, none⟩) HNF.out _) (a := ⟨w.heap.size, 1, none⟩) HNF.out _) (Nat.le_of_lt HLT.out)) (HFK.out.fill _ _) rfl rfl
  · have hv0 := HBAD.out (fun h => her h.1)
    have HV := Lib.hid hv0
    have hern : (er != 0) = true := by simpa using her
    have HB2 := Lib.hid (bthen HB1.out HA1.out)
    clear hv0 HREC HBAD HER HR1 HB1 HA1 HPUT
    have z40 := H41.out.fz 0; have z41 := H41.out.fz 1; have c40 := H41.out.c0; have c41 := H41.out.c1
    go_wp2_with fail
    generalize w1.alloc (.cells #[.int .i64 er, .int .i64 ea] 27) = W0 at *
    go_region
    all_goals
      go_wp2_with fail
      exact HF.out _ _ _ [] er ea HV.out ((below_fill2 HB2.out (Nat.le_refl _) _ _).drew) (World.ownsRow_nil _ _ _ _) (H41.out.fill _ _) rfl rfl
end Go.Proofs.YtelfobnmiphdnaaGreatDoor
namespace Go.Proofs.YtelfobnmiphdnaaGreatDoor
set_option linter.all false
attribute [local irreducible] wpStill
open Go.RowKit

end Go.Proofs.YtelfobnmiphdnaaGreatDoor
