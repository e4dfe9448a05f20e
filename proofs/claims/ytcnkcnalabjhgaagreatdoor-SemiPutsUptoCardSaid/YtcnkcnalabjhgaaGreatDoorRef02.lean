/- The reference's functions of layer 2, walked. -/
import Derived.Test.YtcnkcnalabjhgaaGreatDoorClass2
import Derived.Test.YtcnkcnalabjhgaaGreatDoorRefBase
namespace Go.Proofs.YtcnkcnalabjhgaaGreatDoor
open Go.RowKit

def digitCells (k : IntKind) : Array Value := (digitRanges.flatMap fun p => [Value.int k p.1, Value.int k p.2]).toArray
def wordVals : Array Value := (words.map fun l => Value.string ⟨l.toArray⟩).toArray
/-- A literal slice, as the last block. -/
theorem row_lit (w : World) (C : Array Value) (t : TypeId) (n sz : Nat) (h : C.size = n * sz) : Row (w.alloc (.cells C t)) (.slice (some ⟨w.heap.size, 0, none⟩) n n) n sz C.toList :=
  ⟨by simpa using h, some ⟨w.heap.size, 0, none⟩, n, rfl, Nat.le_refl _, by simp, fun _ => ⟨w.heap.size, 0, rfl, by simp, fun i _ => by rw [Nat.zero_add, World.cell?_alloc_at _ _ _ _ rfl]; simp⟩⟩
set_option maxRecDepth 100000 in
theorem ref_Letters (w : World) :
    Calls Tryz.prog 54 #[] w fun e w' => e = .returned (.slice (some ⟨w.heap.size, 0, none⟩) 33 33) ∧ w' = w.alloc (.cells (letterCells .i64) 82) := by
  go_enter Tryz.func54, Tryz.ntmps54
  go_upto_region 1 with (fail)
  refine wp_region_lit ?_
  refine wpList_run_w 35 (w.alloc (.cells (letterCells .i64) 82)) (by kernel_rfl) (by kernel_rfl) ?_
  refine wpList_nil ?_
  generalize hA : actOf _ _ _ _ = A
  have hA0 : A.tmps.getD 0 undef = .slice (some ⟨w.heap.size, 0, none⟩) 33 33 := by rw [← hA]; kernel_rfl
  have hAd : A.defers = [] := by rw [← hA]; kernel_rfl
  clear hA
  obtain ⟨tm, df⟩ := A
  simp only [] at hA0 hAd
  subst hAd
  rename_i hK
  refine hK _ _ (wp_ret ?_)
  refine bodyPost_ret (results_tmp rfl _ _ _) rfl ?_
  exact ⟨by rw [hA0], rfl⟩
set_option maxRecDepth 100000 in
theorem ref_Digits (w : World) :
    Calls Tryz.prog 75 #[] w fun e w' => e = .returned (.slice (some ⟨w.heap.size, 0, none⟩) 5 5) ∧ w' = w.alloc (.cells (digitCells .i64) 82) := by
  go_enter Tryz.func75, Tryz.ntmps75
  go_upto_region 1 with (fail)
  refine wp_region_lit ?_
  refine wpList_run_w 7 (w.alloc (.cells (digitCells .i64) 82)) (by kernel_rfl) (by kernel_rfl) ?_
  refine wpList_nil ?_
  generalize hA : actOf _ _ _ _ = A
  have hA0 : A.tmps.getD 0 undef = .slice (some ⟨w.heap.size, 0, none⟩) 5 5 := by rw [← hA]; kernel_rfl
  have hAd : A.defers = [] := by rw [← hA]; kernel_rfl
  clear hA
  obtain ⟨tm, df⟩ := A
  simp only [] at hA0 hAd
  subst hAd
  rename_i hK
  refine hK _ _ (wp_ret ?_)
  refine bodyPost_ret (results_tmp rfl _ _ _) rfl ?_
  exact ⟨by rw [hA0], rfl⟩
set_option maxRecDepth 100000 in
theorem ref_Words (w : World) :
    Calls Tryz.prog 55 #[] w fun e w' => e = .returned (.slice (some ⟨w.heap.size, 0, none⟩) 25 25) ∧ w' = w.alloc (.cells wordVals 9) := by
  go_enter Tryz.func55, Tryz.ntmps55
  go_upto_region 1 with (fail)
  refine wp_region_lit ?_
  refine wpList_run_w 2 (w.alloc (.cells wordVals 9)) (by kernel_rfl) (by kernel_rfl) ?_
  refine wpList_nil ?_
  generalize hA : actOf _ _ _ _ = A
  have hA0 : A.tmps.getD 0 undef = .slice (some ⟨w.heap.size, 0, none⟩) 25 25 := by rw [← hA]; kernel_rfl
  have hAd : A.defers = [] := by rw [← hA]; kernel_rfl
  clear hA
  obtain ⟨tm, df⟩ := A
  simp only [] at hA0 hAd
  subst hAd
  rename_i hK
  refine hK _ _ (wp_ret ?_)
  refine bodyPost_ret (results_tmp rfl _ _ _) rfl ?_
  exact ⟨by rw [hA0], rfl⟩

def rangeVals (l : List (Nat × Nat)) : List Value := l.flatMap fun p => [Value.int .i64 p.1, Value.int .i64 p.2]
theorem rangeVals_at (l : List (Nat × Nat)) (i : Nat) (hi : i < l.length) : (rangeVals l)[i * 2]? = some (.int .i64 (frm l i)) ∧ (rangeVals l)[i * 2 + 1]? = some (.int .i64 (too l i)) := by
  induction l generalizing i with
  | nil => simp at hi
  | cons p l ih =>
    cases i with
    | zero => exact ⟨rfl, rfl⟩
    | succ i =>
      have := ih i (by simpa using hi)
      have e1 : (i + 1) * 2 = i * 2 + 2 := by omega
      rw [e1]
      exact this
theorem rangeVals_length (l : List (Nat × Nat)) : (rangeVals l).length = l.length * 2 := by
  induction l with
  | nil => rfl
  | cons p l ih => simp only [rangeVals, List.flatMap_cons, List.length_append, List.length_cons, List.length_nil] at *; omega
set_option maxRecDepth 100000 in
set_option maxHeartbeats 1000000 in
theorem ref_in (r : Int) (v : Value) (l : List (Nat × Nat)) (w : World) (hv : Row w v l.length 2 (rangeVals l)) (hl : l.length ≤ 1000000) (hb0 : ∀ i, i < l.length → frm l i ≤ 1114112 ∧ too l i ≤ 1114112) :
    Calls Tryz.prog 53 #[.int .i64 r, v] w fun e w' => e = .returned (.bool (inR l r)) ∧ w = w' := by
  obtain ⟨_, a, cap, rfl, hc, _, hcell⟩ := hv
  have HC := Lib.hid hcell
  have HB := Lib.hid hb0
  clear hcell hb0
  go_enter Tryz.func53, Tryz.ntmps53
  go_wp2_with fail
  go_loop [5] (fun i => ∃ k : Nat, i = .int .i64 k ∧ k ≤ l.length ∧ (∀ j, j < k → r < (frm l j : Int) ∨ (too l j : Int) < r)) (fun i => l.length - (intOf i).toNat)
  case atStart => exact ⟨0, rfl, Nat.zero_le _, fun j h => by omega⟩
  case round =>
    obtain ⟨k, rfl, hk, hno⟩ := hrel
    have HN := Lib.hid hno
    clear hno
    by_cases hlt : k < l.length
    · obtain ⟨b, off, rfl, hbl, hcl⟩ := HC.out (by omega)
      have hv := rangeVals_at l k hlt
      have h0 : w.cell? ⟨b, off + k * 2, none⟩ = some (.int .i64 (frm l k)) := by rw [hcl _ (by omega)]; exact hv.1
      have h1 : w.cell? ⟨b, off + k * 2 + 1, none⟩ = some (.int .i64 (too l k)) := by rw [Nat.add_assoc, hcl _ (by omega)]; exact hv.2
      have hyes := inR_at l r k hlt
      have hkl : (k : Int) < l.length := by omega
      have hbk := HB.out k hlt
      clear hcl hv
      generalize hf : frm l k = f at *
      generalize ht : too l k = t at *
      have HF := Lib.hid hf; have HT := Lib.hid ht
      have HY := Lib.hid hyes
      clear hf ht hyes
      by_cases g1 : (f : Int) ≤ r
      · by_cases g2 : r ≤ (t : Int)
        · go_wp2_with fail
          go_ret
          exact ⟨ret_bool (HY.out g1 g2).symm, rfl⟩
        · go_wp2_with fail
          go_round
          case rel => exact ⟨k + 1, by go_num, by omega, fun j hj => by
            by_cases e : j = k
            · subst e; have := HT.out; omega
            · exact HN.out j (by omega)⟩
          case measure => simp [intOf]; omega
      · go_wp2_with fail
        go_round
        case rel => exact ⟨k + 1, by go_num, by omega, fun j hj => by
          by_cases e : j = k
          · subst e; have := HF.out; omega
          · exact HN.out j (by omega)⟩
        case measure => simp [intOf]; omega
    · have hkl : (l.length : Int) ≤ k := by omega
      have HX := Lib.hid (inR_none l r fun i hi => HN.out i (by omega))
      go_wp2_with fail
      go_ret
      exact ⟨ret_bool HX.out.symm, rfl⟩
theorem letterCells_vals : (letterCells .i64).toList = rangeVals letterRanges := rfl
theorem digitCells_vals : (digitCells .i64).toList = rangeVals digitRanges := rfl
theorem digits_small : ∀ i, i < 5 → frm digitRanges i ≤ 1114112 ∧ too digitRanges i ≤ 1114112 := by decide +kernel
theorem letters_small' : ∀ i, i < 33 → frm letterRanges i ≤ 1114112 ∧ too letterRanges i ≤ 1114112 := by decide +kernel
theorem ref_Letter (r : Int) (w : World) :
    Calls Tryz.prog 36 #[.int .i64 r] w fun e w' => e = .returned (.bool (letter r)) ∧ Below w.heap.size w w' := by
  have hR := row_lit w (letterCells .i64) 82 33 2 (by decide +kernel)
  rw [letterCells_vals] at hR
  have HL := Lib.hid (show letter r = inR letterRanges r by unfold letter; rfl)
  have HI := Lib.hid (ref_in r _ letterRanges _ hR (by decide) letters_small')
  have HC := Lib.hid (ref_Letters w)
  have HB := Lib.hid ((Below.refl _ w).alloc (Nat.le_refl _) (.cells (letterCells .i64) 82))
  clear hR
  generalize inR letterRanges r = x at *
  generalize letterCells .i64 = C at *
  go_enter Tryz.func36, Tryz.ntmps36
  go_wp2_with fail
  refine HC.out.mono ?_; rintro e w1 ⟨rfl, rfl⟩
  go_wp2_with fail
  refine HI.out.mono ?_; rintro e w1 ⟨rfl, rfl⟩
  go_wp2_with fail
  go_ret
  exact ⟨ret_bool HL.out.symm, HB.out⟩
theorem ref_Digit (r : Int) (w : World) :
    Calls Tryz.prog 52 #[.int .i64 r] w fun e w' => e = .returned (.bool (digit r)) ∧ Below w.heap.size w w' := by
  have hR := row_lit w (digitCells .i64) 82 5 2 (by decide +kernel)
  rw [digitCells_vals] at hR
  have HL := Lib.hid (show digit r = inR digitRanges r by unfold digit; rfl)
  have HI := Lib.hid (ref_in r _ digitRanges _ hR (by decide) digits_small)
  have HC := Lib.hid (ref_Digits w)
  have HB := Lib.hid ((Below.refl _ w).alloc (Nat.le_refl _) (.cells (digitCells .i64) 82))
  clear hR
  generalize inR digitRanges r = x at *
  generalize digitCells .i64 = C at *
  go_enter Tryz.func52, Tryz.ntmps52
  go_wp2_with fail
  refine HC.out.mono ?_; rintro e w1 ⟨rfl, rfl⟩
  go_wp2_with fail
  refine HI.out.mono ?_; rintro e w1 ⟨rfl, rfl⟩
  go_wp2_with fail
  go_ret
  exact ⟨ret_bool HL.out.symm, HB.out⟩
theorem ref_Blank (r : Int) (w : World) :
    Calls Tryz.prog 33 #[.int .i64 r] w fun e w' => e = .returned (.bool (blank r)) ∧ w = w' := by
  go_enter Tryz.func33, Tryz.ntmps33
  go_wp2_with fail
  all_goals go_ret
  all_goals (refine ⟨ret_bool ?_, rfl⟩; rw [Bool.eq_iff_iff]; unfold blank; simp; try omega)
theorem wordVals_at (i : Nat) (hi : i < 25) : wordVals[i]? = some (.string ⟨(words.getD i []).toArray⟩) := by
  have h : i < words.length := hi
  unfold wordVals
  simp only [List.getElem?_toArray, List.getElem?_map, List.getElem?_eq_getElem h, Option.map_some, List.getD_eq_getElem?_getD, Option.getD_some]
theorem word_yes (s : ByteArray) (i : Nat) (hi : i < 25) (h : (words.getD i [] == s.toList) = true) : word s = true := by
  have h2 : i < words.length := hi
  unfold word
  rw [List.any_eq_true]
  refine ⟨words[i], List.getElem_mem h2, ?_⟩
  rw [List.getD_eq_getElem?_getD, List.getElem?_eq_getElem h2, Option.getD_some, beq_iff_eq] at h
  rw [beq_iff_eq, h]
theorem word_no (s : ByteArray) (h : ∀ i, i < 25 → (words.getD i [] == s.toList) = false) : word s = false := by
  unfold word
  rw [List.any_eq_false]
  intro x hx
  obtain ⟨i, hi, rfl⟩ := List.getElem_of_mem hx
  have := h i hi
  rw [List.getD_eq_getElem?_getD, List.getElem?_eq_getElem hi, Option.getD_some, beq_eq_false_iff_ne] at this
  simp only [beq_iff_eq]
  exact fun e => this e.symm
set_option maxRecDepth 100000 in
set_option maxHeartbeats 1000000 in
theorem ref_Word (s : ByteArray) (w : World) :
    Calls Tryz.prog 37 #[.string s] w fun e w' => e = .returned (.bool (word s)) ∧ Below w.heap.size w w' := by
  have HC := Lib.hid (ref_Words w)
  have HW := Lib.hid wordVals_at
  have HB := Lib.hid ((Below.refl _ w).alloc (Nat.le_refl _) (.cells wordVals 9))
  have hcell : ∀ j, (w.alloc (.cells wordVals 9)).cell? ⟨w.heap.size, j, none⟩ = wordVals[j]? := fun j => World.cell?_alloc_at _ _ _ _ rfl
  have HCL := Lib.hid hcell
  clear hcell
  generalize wordVals = C at *
  go_enter Tryz.func37, Tryz.ntmps37
  go_wp2_with fail
  refine HC.out.mono ?_; rintro e w1 ⟨rfl, rfl⟩
  generalize w.alloc (.cells C 9) = W at *
  go_wp2_with fail
  go_loop [4] (fun i => ∃ k : Nat, i = .int .i64 k ∧ k ≤ 25 ∧ (∀ j, j < k → (words.getD j [] == s.toList) = false)) (fun i => 25 - (intOf i).toNat)
  case atStart => exact ⟨0, rfl, Nat.zero_le _, fun j h => by omega⟩
  case round =>
    obtain ⟨k, rfl, hk, hno⟩ := hrel
    have HN := Lib.hid hno
    clear hno
    by_cases hlt : k < 25
    · have h0 : W.cell? ⟨w.heap.size, k, none⟩ = some (.string ⟨(words.getD k []).toArray⟩) := by rw [HCL.out, HW.out k hlt]
      have hyes := word_yes s k hlt
      have hnn : ∀ _ : (words.getD k [] == s.toList) = false, ∀ j, j < k + 1 → (words.getD j [] == s.toList) = false := fun hx j hj => by
        by_cases e : j = k
        · subst e; exact hx
        · exact HN.out j (by omega)
      generalize words.getD k [] = x at *
      have HY := Lib.hid hyes; have HNN := Lib.hid hnn
      clear hyes hnn
      go_wp2_with fail
      · have hx : (x == s.toList) = true := by assumption
        go_ret
        exact ⟨ret_bool (HY.out hx).symm, HB.out⟩
      · have hx : (x == s.toList) = false := by assumption
        go_round
        case rel => exact ⟨k + 1, by go_num, by omega, HNN.out hx⟩
        case measure => simp [intOf]; omega
    · have HX := Lib.hid (word_no s fun i hi => HN.out i (by omega))
      go_wp2_with fail
      go_ret
      exact ⟨ret_bool HX.out.symm, HB.out⟩
end Go.Proofs.YtcnkcnalabjhgaaGreatDoor
