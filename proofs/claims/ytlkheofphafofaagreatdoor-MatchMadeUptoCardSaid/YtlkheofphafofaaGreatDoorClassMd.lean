/- The program's functions of layer 2, walked. -/
import Derived.Test.YtlkheofphafofaaGreatDoorPureMd
import Derived.Test.YtlkheofphafofaaGreatDoorU8bMd
import Derived.Test.YtlkheofphafofaaGreatDoorShelfQMd
import Derived.Test.YtlkheofphafofaaGreatDoorRefBaseMd
namespace Go.Proofs.YtlkheofphafofaaGreatDoor
open Go.RowKit

def letterCells (k : IntKind) : Array Value := (letterRanges.flatMap fun p => [Value.int k p.1, Value.int k p.2]).toArray
def zeros (n : Nat) : Array Value := (List.replicate n (Value.int .i32 0)).toArray
theorem zero61 (w : World) : (zeroValue 130).run Tryz.prog w = .ok (.agg (zeros 66)) w := by kernel_rfl
set_option maxRecDepth 100000 in
theorem class_letters (w : World) :
  Calls Tryz.prog 91 #[] w fun e w' => e = .returned (.agg (letterCells .i32)) ∧ Below w.heap.size w w' := by
 have hz := zero61
 go_enter Tryz.func91, Tryz.ntmps91
 go_upto_region 1 with (fail)
 refine wp_region_lit ?_
 refine wpList_run_n 34 (by kernel_rfl) (by kernel_rfl) ?_
 refine wpList_store_row rfl 130 (.tmp 0) (.tmp 34) rfl w.heap.size (letterCells .i32) (by kernel_rfl) (by kernel_rfl) 130 (zeros 66) (heap_alloc_new _ _) (by kernel_rfl) (by kernel_rfl) (by kernel_rfl) ?_
 refine wpList_nil ?_
 generalize hA : (actAfter _ _ _).put _ undef = A
 have hA0 : A.tmps.getD 0 undef = .pointer (some ⟨w.heap.size, 0, none⟩) := by rw [← hA]; kernel_rfl
 have hAd : A.defers = [] := by rw [← hA]; kernel_rfl
 clear hA hz
 obtain ⟨tm, df⟩ := A
 simp only [] at hA0 hAd
 subst hAd
 rename_i hK
 refine hK _ _ (wp_ret ?_)
 refine bodyPost_ret (results_cell_row rfl tm _ w.heap.size 130 (letterCells .i32) (0, 0) _ hA0 ?_ Tryz.underlying130 rfl (by kernel_rfl)) rfl ?_
 ·rw [World.setRow_alloc_new]; exact heap_alloc_new _ _
 ·exact ⟨rfl, by rw [World.setRow_alloc_new]; exact (Below.refl _ _).alloc (Nat.le_refl _) _⟩
theorem letterCells_at : ∀ i, i < 33 → (letterCells .i32)[2 * i]? = some (.int .i32 (frm letterRanges i)) ∧ (letterCells .i32)[2 * i + 1]? = some (.int .i32 (too letterRanges i)) := by
 intro i hi
 have h : ∀ i : Fin 33, (letterRanges.flatMap fun p => [(p.1 : Int), (p.2 : Int)])[2 * i.val]? = some ((frm letterRanges i.val : Nat) : Int) ∧ (letterRanges.flatMap fun p => [(p.1 : Int), (p.2 : Int)])[2 * i.val + 1]? = some ((too letterRanges i.val : Nat) : Int) := by decide +kernel
 have e : letterCells .i32 = ((letterRanges.flatMap fun p => [(p.1 : Int), (p.2 : Int)]).map (Value.int .i32)).toArray := by
  unfold letterCells
  rw [List.map_flatMap]; rfl
 have := h ⟨i, hi⟩
 rw [e]
 simp only [List.getElem?_toArray, List.getElem?_map]
 rw [this.1, this.2]
 exact ⟨rfl, rfl⟩
set_option maxRecDepth 100000 in
set_option maxHeartbeats 1000000 in
theorem class_Letter (r : Int) (w : World) :
  Calls Tryz.prog 67 #[.int .i32 r] w fun e w' => e = .returned (.bool (letter r)) ∧ Below w.heap.size w w' := by
 have hz := zero61
 go_enter Tryz.func67, Tryz.ntmps67
 go_wp2_with fail
 refine (class_letters _).mono ?_; rintro e w1 ⟨rfl, hb1⟩
 go_wp2_with (refine wpList_store_row rfl 130 (.tmp 3) (.tmp 7) rfl w1.heap.size (letterCells .i32) rfl rfl 130 (zeros 66) (heap_alloc_new _ _) (by kernel_rfl) (by kernel_rfl) (by kernel_rfl) ?_; rw [World.setRow_alloc_new])
 have hcell : ∀ j, (w1.alloc (.cells (letterCells .i32) 130)).cell? ⟨w1.heap.size, j, none⟩ = (letterCells .i32)[j]? := fun j => World.cell?_alloc_at _ _ _ _ rfl
 have hbW : Below w.heap.size w (w1.alloc (.cells (letterCells .i32) 130)) := hb1.alloc hb1.size _
 generalize w1.alloc (.cells (letterCells .i32) 130) = W at *
 generalize w1.heap.size = B at *
 have HC := Lib.hid hcell
 have HB := Lib.hid hbW
 clear hcell hbW hb1 hz
 generalize letterCells .i32 = LC
 go_loop [4, 5] (fun a b => ∃ lo hi : Nat, a = .int .i64 lo ∧ b = .int .i64 hi ∧ lo ≤ hi ∧ hi ≤ 33 ∧ (∀ i, i < lo → (too letterRanges i : Int) < r) ∧ (∀ i, hi ≤ i → i < 33 → r < (frm letterRanges i : Int))) (fun a b => (intOf b - intOf a).toNat)
 case atStart => exact ⟨0, 33, rfl, rfl, by omega, by omega, fun i h => by omega, fun i h1 h2 => by omega⟩
 case round =>
  obtain ⟨lo, hi, rfl, rfl, hle, h33, hlo, hhi⟩ := hrel
  have HLO := Lib.hid hlo; have HHI := Lib.hid hhi
  clear hlo hhi
  by_cases hlt : lo < hi
  ·have hmid : (lo + hi) / 2 < 33 := by omega
   have hm := letterCells_at _ hmid
   have hs1 := letters_sorted
   have hsm := letters_small _ hmid
   have hc0 : W.cell? ⟨B, (lo + hi) / 2 * 2, none⟩ = some (.int .i32 (frm letterRanges ((lo + hi) / 2))) := by rw [HC.out, Nat.mul_comm]; exact hm.1
   have hc1 : W.cell? ⟨B, (lo + hi) / 2 * 2 + 1, none⟩ = some (.int .i32 (too letterRanges ((lo + hi) / 2))) := by rw [HC.out, Nat.mul_comm]; exact hm.2
   have HS := Lib.hid hs1
   clear hm hs1
   have hml : lo ≤ (lo + hi) / 2 := by omega
   have hmh : (lo + hi) / 2 < hi := by omega
   generalize hf : frm letterRanges ((lo + hi) / 2) = f at *
   generalize ht : too letterRanges ((lo + hi) / 2) = t at *
   have HF := Lib.hid hf; have HT := Lib.hid ht
   clear hf ht
   go_wp2_with fail
   ·have hrf : r < (f : Int) := by assumption
    go_round
    case rel => exact ⟨lo, (lo + hi) / 2, rfl, by go_num, hml, by omega, HLO.out, fun i h1 h2 => by have := (HS.out _ hmid i h2 h1).1; have := HF.out; omega⟩
    case measure => simp [intOf]; omega
   ·have hrt : (t : Int) < r := by assumption
    go_round
    case rel => exact ⟨(lo + hi) / 2 + 1, hi, by go_num, rfl, by omega, h33, fun i h1 => by have := (HS.out i (by omega) _ hmid (by omega)).2; have := HT.out; omega, HHI.out⟩
    case measure => simp [intOf]; omega
   ·go_ret
    have h1 : (f : Int) ≤ r := by omega
    have h2 : r ≤ (t : Int) := by omega
    exact ⟨ret_bool (by unfold letter; exact (inR_at letterRanges r _ hmid (by rw [HF.out]; exact h1) (by rw [HT.out]; exact h2)).symm), HB.out⟩
  ·go_wp2_with fail
   go_ret
   have hno : inR letterRanges r = false := inR_none letterRanges r fun i hi' => by
    by_cases h : i < lo
    ·exact Or.inr (HLO.out i h)
    ·exact Or.inl (HHI.out i (by omega) hi')
   exact ⟨ret_bool (by unfold letter; exact hno.symm), HB.out⟩
end Go.Proofs.YtlkheofphafofaaGreatDoor
namespace Go.Proofs.YtlkheofphafofaaGreatDoor
open Go.RowKit

set_option maxRecDepth 100000 in
set_option maxHeartbeats 1000000 in
theorem class_Digit (r : Int) (hr : -2147483648 ≤ r ∧ r ≤ 2147483647) (w : World) :
  Calls Tryz.prog 68 #[.int .i32 r] w fun e w' => e = .returned (.bool (digit r)) ∧ w = w' := by
 have i0 : ∀ w, (Instr.index 132 (.agg #[.int .i32 48, .int .i32 1632, .int .i32 2406, .int .i32 3664, .int .i32 65296]) (.int .i64 0)).run Tryz.prog w = .ok (.int .i32 48) w := fun _ => by kernel_rfl
 have i1 : ∀ w, (Instr.index 132 (.agg #[.int .i32 48, .int .i32 1632, .int .i32 2406, .int .i32 3664, .int .i32 65296]) (.int .i64 1)).run Tryz.prog w = .ok (.int .i32 1632) w := fun _ => by kernel_rfl
 have i2 : ∀ w, (Instr.index 132 (.agg #[.int .i32 48, .int .i32 1632, .int .i32 2406, .int .i32 3664, .int .i32 65296]) (.int .i64 2)).run Tryz.prog w = .ok (.int .i32 2406) w := fun _ => by kernel_rfl
 have i3 : ∀ w, (Instr.index 132 (.agg #[.int .i32 48, .int .i32 1632, .int .i32 2406, .int .i32 3664, .int .i32 65296]) (.int .i64 3)).run Tryz.prog w = .ok (.int .i32 3664) w := fun _ => by kernel_rfl
 have i4 : ∀ w, (Instr.index 132 (.agg #[.int .i32 48, .int .i32 1632, .int .i32 2406, .int .i32 3664, .int .i32 65296]) (.int .i64 4)).run Tryz.prog w = .ok (.int .i32 65296) w := fun _ => by kernel_rfl
 go_enter Tryz.func68, Tryz.ntmps68
 go_wp2_with fail
 go_rounds 7
 all_goals go_ret
 all_goals (refine ⟨ret_bool ?_, rfl⟩; clear i0 i1 i2 i3 i4; rw [Bool.eq_iff_iff]; unfold digit inR digitRanges; simp; omega)
theorem class_Base (r : Int) (hr : -2147483648 ≤ r ∧ r ≤ 2147483647) (w : World) :
  Calls Tryz.prog 161 #[.int .i32 r] w fun e w' => e = .returned (.int .i64 (base r)) ∧ w = w' := by
 go_enter Tryz.func161, Tryz.ntmps161
 go_wp2_with fail
 all_goals go_ret
 all_goals (refine ⟨ret_int ?_, rfl⟩)
 all_goals (clear hr; unfold base; repeat (first | rw [if_pos (by omega)] | rw [if_neg (by omega)] | rfl))
set_option maxRecDepth 100000 in
set_option maxHeartbeats 4000000 in
theorem class_Word (s : ByteArray) (w : World) :
  Calls Tryz.prog 65 #[.string s] w fun e w' => e = .returned (.bool (word s)) ∧ w = w' := by
 go_enter Tryz.func65, Tryz.ntmps65
 go_wp2_with fail
 all_goals go_ret
 all_goals (refine ⟨ret_bool ?_, rfl⟩)
 all_goals first | (unfold word words; simp only [List.any_cons, List.any_nil, *, Bool.true_or, Bool.or_true, Bool.or_false]; done) | (exfalso; simp_all; done)
end Go.Proofs.YtlkheofphafofaaGreatDoor
namespace Go.Proofs.YtlkheofphafofaaGreatDoor
open Go.RowKit

def digitCells (k : IntKind) : Array Value := (digitRanges.flatMap fun p => [Value.int k p.1, Value.int k p.2]).toArray
def wordVals : Array Value := (words.map fun l => Value.string ⟨l.toArray⟩).toArray
theorem row_lit (w : World) (C : Array Value) (t : TypeId) (n sz : Nat) (h : C.size = n * sz) : Row (w.alloc (.cells C t)) (.slice (some ⟨w.heap.size, 0, none⟩) n n) n sz C.toList :=
 ⟨by simpa using h, some ⟨w.heap.size, 0, none⟩, n, rfl, Nat.le_refl _, by simp, fun _ => ⟨w.heap.size, 0, rfl, by simp, fun i _ => by rw [Nat.zero_add, World.cell?_alloc_at _ _ _ _ rfl]; simp⟩⟩
set_option maxRecDepth 100000 in
theorem ref_Letters (w : World) :
  Calls Tryz.prog 100 #[] w fun e w' => e = .returned (.slice (some ⟨w.heap.size, 0, none⟩) 33 33) ∧ w' = w.alloc (.cells (letterCells .i64) 149) := by
 go_enter Tryz.func100, Tryz.ntmps100
 go_upto_region 1 with (fail)
 refine wp_region_lit ?_
 refine wpList_run_w 35 (w.alloc (.cells (letterCells .i64) 149)) (by kernel_rfl) (by kernel_rfl) ?_
 refine wpList_nil ?_
 generalize hA : actOf _ _ _ _ = A
 have hA0 : A.tmps.getD 0 undef = .slice (some ⟨w.heap.size, 0, none⟩) 33 33 := by rw [← hA]; kernel_rfl
 have hAd : A.defers = [] := by rw [← hA]; kernel_rfl
 clear hA
 obtain ⟨tm, df⟩ := A
 simp only [] at hA0 hAd
 subst hAd
 rename_i hK
 refine hK _ _ (wp_ret ?_)
 refine bodyPost_ret (results_tmp rfl _ _ _) rfl ?_
 exact ⟨by rw [hA0], rfl⟩
set_option maxRecDepth 100000 in
theorem ref_Digits (w : World) :
  Calls Tryz.prog 101 #[] w fun e w' => e = .returned (.slice (some ⟨w.heap.size, 0, none⟩) 5 5) ∧ w' = w.alloc (.cells (digitCells .i64) 149) := by
 go_enter Tryz.func101, Tryz.ntmps101
 go_upto_region 1 with (fail)
 refine wp_region_lit ?_
 refine wpList_run_w 7 (w.alloc (.cells (digitCells .i64) 149)) (by kernel_rfl) (by kernel_rfl) ?_
 refine wpList_nil ?_
 generalize hA : actOf _ _ _ _ = A
 have hA0 : A.tmps.getD 0 undef = .slice (some ⟨w.heap.size, 0, none⟩) 5 5 := by rw [← hA]; kernel_rfl
 have hAd : A.defers = [] := by rw [← hA]; kernel_rfl
 clear hA
 obtain ⟨tm, df⟩ := A
 simp only [] at hA0 hAd
 subst hAd
 rename_i hK
 refine hK _ _ (wp_ret ?_)
 refine bodyPost_ret (results_tmp rfl _ _ _) rfl ?_
 exact ⟨by rw [hA0], rfl⟩
set_option maxRecDepth 100000 in
theorem ref_Words (w : World) :
  Calls Tryz.prog 98 #[] w fun e w' => e = .returned (.slice (some ⟨w.heap.size, 0, none⟩) 25 25) ∧ w' = w.alloc (.cells wordVals 9) := by
 go_enter Tryz.func98, Tryz.ntmps98
 go_upto_region 1 with (fail)
 refine wp_region_lit ?_
 refine wpList_run_w 2 (w.alloc (.cells wordVals 9)) (by kernel_rfl) (by kernel_rfl) ?_
 refine wpList_nil ?_
 generalize hA : actOf _ _ _ _ = A
 have hA0 : A.tmps.getD 0 undef = .slice (some ⟨w.heap.size, 0, none⟩) 25 25 := by rw [← hA]; kernel_rfl
 have hAd : A.defers = [] := by rw [← hA]; kernel_rfl
 clear hA
 obtain ⟨tm, df⟩ := A
 simp only [] at hA0 hAd
 subst hAd
 rename_i hK
 refine hK _ _ (wp_ret ?_)
 refine bodyPost_ret (results_tmp rfl _ _ _) rfl ?_
 exact ⟨by rw [hA0], rfl⟩

def rangeVals (l : List (Nat × Nat)) : List Value := l.flatMap fun p => [Value.int .i64 p.1, Value.int .i64 p.2]
theorem rangeVals_at (l : List (Nat × Nat)) (i : Nat) (hi : i < l.length) : (rangeVals l)[i * 2]? = some (.int .i64 (frm l i)) ∧ (rangeVals l)[i * 2 + 1]? = some (.int .i64 (too l i)) := by
 induction l generalizing i with
 | nil => simp at hi
 | cons p l ih =>
  cases i with
  | zero => exact ⟨rfl, rfl⟩
  | succ i =>
   have := ih i (by simpa using hi)
   have e1 : (i + 1) * 2 = i * 2 + 2 := by omega
   rw [e1]
   exact this
set_option maxRecDepth 100000 in
set_option maxHeartbeats 1000000 in
theorem ref_in (r : Int) (v : Value) (l : List (Nat × Nat)) (w : World) (hv : Row w v l.length 2 (rangeVals l)) (hl : l.length ≤ 1000000) (hb0 : ∀ i, i < l.length → frm l i ≤ 1114112 ∧ too l i ≤ 1114112) :
  Calls Tryz.prog 99 #[.int .i64 r, v] w fun e w' => e = .returned (.bool (inR l r)) ∧ w = w' := by
 obtain ⟨_, a, cap, rfl, hc, _, hcell⟩ := hv
 have HC := Lib.hid hcell
 have HB := Lib.hid hb0
 clear hcell hb0
 go_enter Tryz.func99, Tryz.ntmps99
 go_wp2_with fail
 go_loop [5] (fun i => ∃ k : Nat, i = .int .i64 k ∧ k ≤ l.length ∧ (∀ j, j < k → r < (frm l j : Int) ∨ (too l j : Int) < r)) (fun i => l.length - (intOf i).toNat)
 case atStart => exact ⟨0, rfl, Nat.zero_le _, fun j h => by omega⟩
 case round =>
  obtain ⟨k, rfl, hk, hno⟩ := hrel
  have HN := Lib.hid hno
  clear hno
  by_cases hlt : k < l.length
  ·obtain ⟨b, off, rfl, hbl, hcl⟩ := HC.out (by omega)
   have hv := rangeVals_at l k hlt
   have h0 : w.cell? ⟨b, off + k * 2, none⟩ = some (.int .i64 (frm l k)) := by rw [hcl _ (by omega)]; exact hv.1
   have h1 : w.cell? ⟨b, off + k * 2 + 1, none⟩ = some (.int .i64 (too l k)) := by rw [Nat.add_assoc, hcl _ (by omega)]; exact hv.2
   have hyes := inR_at l r k hlt
   have hkl : (k : Int) < l.length := by omega
   have hbk := HB.out k hlt
   clear hcl hv
   generalize hf : frm l k = f at *
   generalize ht : too l k = t at *
   have HF := Lib.hid hf; have HT := Lib.hid ht
   have HY := Lib.hid hyes
   clear hf ht hyes
   by_cases g1 : (f : Int) ≤ r
   ·by_cases g2 : r ≤ (t : Int)
    ·go_wp2_with fail
     go_ret
     exact ⟨ret_bool (HY.out g1 g2).symm, rfl⟩
    ·go_wp2_with fail
     go_round
     case rel => exact ⟨k + 1, by go_num, by omega, fun j hj => by
      by_cases e : j = k
      ·subst e; have := HT.out; omega
      ·exact HN.out j (by omega)⟩
     case measure => simp [intOf]; omega
   ·go_wp2_with fail
    go_round
    case rel => exact ⟨k + 1, by go_num, by omega, fun j hj => by
     by_cases e : j = k
     ·subst e; have := HF.out; omega
     ·exact HN.out j (by omega)⟩
    case measure => simp [intOf]; omega
  ·have hkl : (l.length : Int) ≤ k := by omega
   have HX := Lib.hid (inR_none l r fun i hi => HN.out i (by omega))
   go_wp2_with fail
   go_ret
   exact ⟨ret_bool HX.out.symm, rfl⟩
theorem letterCells_vals : (letterCells .i64).toList = rangeVals letterRanges := rfl
theorem digitCells_vals : (digitCells .i64).toList = rangeVals digitRanges := rfl
theorem digits_small : ∀ i, i < 5 → frm digitRanges i ≤ 1114112 ∧ too digitRanges i ≤ 1114112 := by decide +kernel
theorem letters_small' : ∀ i, i < 33 → frm letterRanges i ≤ 1114112 ∧ too letterRanges i ≤ 1114112 := by decide +kernel
theorem ref_Letter (r : Int) (w : World) :
  Calls Tryz.prog 76 #[.int .i64 r] w fun e w' => e = .returned (.bool (letter r)) ∧ Below w.heap.size w w' := by
 have hR := row_lit w (letterCells .i64) 149 33 2 (by decide +kernel)
 rw [letterCells_vals] at hR
 have HL := Lib.hid (show letter r = inR letterRanges r by unfold letter; rfl)
 have HI := Lib.hid (ref_in r _ letterRanges _ hR (by decide) letters_small')
 have HC := Lib.hid (ref_Letters w)
 have HB := Lib.hid ((Below.refl _ w).alloc (Nat.le_refl _) (.cells (letterCells .i64) 149))
 clear hR
 generalize inR letterRanges r = x at *
 generalize letterCells .i64 = C at *
 go_enter Tryz.func76, Tryz.ntmps76
 go_wp2_with fail
 refine HC.out.mono ?_; rintro e w1 ⟨rfl, rfl⟩
 go_wp2_with fail
 refine HI.out.mono ?_; rintro e w1 ⟨rfl, rfl⟩
 go_wp2_with fail
 go_ret
 exact ⟨ret_bool HL.out.symm, HB.out⟩
theorem ref_Digit (r : Int) (w : World) :
  Calls Tryz.prog 77 #[.int .i64 r] w fun e w' => e = .returned (.bool (digit r)) ∧ Below w.heap.size w w' := by
 have hR := row_lit w (digitCells .i64) 149 5 2 (by decide +kernel)
 rw [digitCells_vals] at hR
 have HL := Lib.hid (show digit r = inR digitRanges r by unfold digit; rfl)
 have HI := Lib.hid (ref_in r _ digitRanges _ hR (by decide) digits_small)
 have HC := Lib.hid (ref_Digits w)
 have HB := Lib.hid ((Below.refl _ w).alloc (Nat.le_refl _) (.cells (digitCells .i64) 149))
 clear hR
 generalize inR digitRanges r = x at *
 generalize digitCells .i64 = C at *
 go_enter Tryz.func77, Tryz.ntmps77
 go_wp2_with fail
 refine HC.out.mono ?_; rintro e w1 ⟨rfl, rfl⟩
 go_wp2_with fail
 refine HI.out.mono ?_; rintro e w1 ⟨rfl, rfl⟩
 go_wp2_with fail
 go_ret
 exact ⟨ret_bool HL.out.symm, HB.out⟩
theorem wordVals_at (i : Nat) (hi : i < 25) : wordVals[i]? = some (.string ⟨(words.getD i []).toArray⟩) := by
 have h : i < words.length := hi
 unfold wordVals
 simp only [List.getElem?_toArray, List.getElem?_map, List.getElem?_eq_getElem h, Option.map_some, List.getD_eq_getElem?_getD, Option.getD_some]
theorem word_yes (s : ByteArray) (i : Nat) (hi : i < 25) (h : (words.getD i [] == s.toList) = true) : word s = true := by
 have h2 : i < words.length := hi
 unfold word
 rw [List.any_eq_true]
 refine ⟨words[i], List.getElem_mem h2, ?_⟩
 rw [List.getD_eq_getElem?_getD, List.getElem?_eq_getElem h2, Option.getD_some, beq_iff_eq] at h
 rw [beq_iff_eq, h]
theorem word_no (s : ByteArray) (h : ∀ i, i < 25 → (words.getD i [] == s.toList) = false) : word s = false := by
 unfold word
 rw [List.any_eq_false]
 intro x hx
 obtain ⟨i, hi, rfl⟩ := List.getElem_of_mem hx
 have := h i hi
 rw [List.getD_eq_getElem?_getD, List.getElem?_eq_getElem hi, Option.getD_some, beq_eq_false_iff_ne] at this
 simp only [beq_iff_eq]
 exact fun e => this e.symm
set_option maxRecDepth 100000 in
set_option maxHeartbeats 1000000 in
theorem ref_Word (s : ByteArray) (w : World) :
  Calls Tryz.prog 75 #[.string s] w fun e w' => e = .returned (.bool (word s)) ∧ Below w.heap.size w w' := by
 have HC := Lib.hid (ref_Words w)
 have HW := Lib.hid wordVals_at
 have HB := Lib.hid ((Below.refl _ w).alloc (Nat.le_refl _) (.cells wordVals 9))
 have hcell : ∀ j, (w.alloc (.cells wordVals 9)).cell? ⟨w.heap.size, j, none⟩ = wordVals[j]? := fun j => World.cell?_alloc_at _ _ _ _ rfl
 have HCL := Lib.hid hcell
 clear hcell
 generalize wordVals = C at *
 go_enter Tryz.func75, Tryz.ntmps75
 go_wp2_with fail
 refine HC.out.mono ?_; rintro e w1 ⟨rfl, rfl⟩
 generalize w.alloc (.cells C 9) = W at *
 go_wp2_with fail
 go_loop [4] (fun i => ∃ k : Nat, i = .int .i64 k ∧ k ≤ 25 ∧ (∀ j, j < k → (words.getD j [] == s.toList) = false)) (fun i => 25 - (intOf i).toNat)
 case atStart => exact ⟨0, rfl, Nat.zero_le _, fun j h => by omega⟩
 case round =>
  obtain ⟨k, rfl, hk, hno⟩ := hrel
  have HN := Lib.hid hno
  clear hno
  by_cases hlt : k < 25
  ·have h0 : W.cell? ⟨w.heap.size, k, none⟩ = some (.string ⟨(words.getD k []).toArray⟩) := by rw [HCL.out, HW.out k hlt]
   have hyes := word_yes s k hlt
   have hnn : ∀ _ : (words.getD k [] == s.toList) = false, ∀ j, j < k + 1 → (words.getD j [] == s.toList) = false := fun hx j hj => by
    by_cases e : j = k
    ·subst e; exact hx
    ·exact HN.out j (by omega)
   generalize words.getD k [] = x at *
   have HY := Lib.hid hyes; have HNN := Lib.hid hnn
   clear hyes hnn
   go_wp2_with fail
   ·have hx : (x == s.toList) = true := by assumption
    go_ret
    exact ⟨ret_bool (HY.out hx).symm, HB.out⟩
   ·have hx : (x == s.toList) = false := by assumption
    go_round
    case rel => exact ⟨k + 1, by go_num, by omega, HNN.out hx⟩
    case measure => simp [intOf]; omega
  ·have HX := Lib.hid (word_no s fun i hi => HN.out i (by omega))
   go_wp2_with fail
   go_ret
   exact ⟨ret_bool HX.out.symm, HB.out⟩
end Go.Proofs.YtlkheofphafofaaGreatDoor
namespace Go.Proofs.YtlkheofphafofaaGreatDoor
open Go.RowKit

def ints (l : List Nat) : List Int := l.map fun (x : Nat) => (x : Int)
theorem longVals_ints (l : List Nat) : longVals l = (ints l).map (Value.int .i64) := by simp [longVals, ints]
theorem ints_length (l : List Nat) : (ints l).length = l.length := by simp [ints]
@[irreducible] def charsOk (s : ByteArray) : List Int := if bad s < 0 then ints (chars s) else []
theorem charsOk_good {s : ByteArray} (h : bad s < 0) : charsOk s = ints (chars s) := by unfold charsOk; rw [if_pos h]
theorem charsOk_bad {s : ByteArray} (h : 0 ≤ bad s) : charsOk s = [] := by unfold charsOk; rw [if_neg (by omega)]
theorem charsOk_length (s : ByteArray) : (charsOk s).length ≤ s.size := by
 unfold charsOk; split
 ·rw [ints_length]; exact chars_length s
 ·simp
theorem ref_Alls (s : ByteArray) (w : World) (hs : s.size ≤ 1099511627775) :
  Calls Tryz.prog 74 #[.string s] w fun e w' => ∃ v, e = .returned (.tuple #[v, .bool (decide (bad s < 0))]) ∧ Below w.heap.size w w' ∧ w'.ownsRow w.heap.size 2 1 v (charsOk s).length ((charsOk s).map (Value.int .i64)) := by
 by_cases h : bad s < 0
 ·refine (ref_All s w hs h).mono ?_
  rintro e w' ⟨v, rfl, hb, hown⟩
  exact ⟨v, by simp [h], hb, by rw [charsOk_good h, ints_length, ← longVals_ints]; exact hown⟩
 ·refine (ref_All_bad s w hs (by omega)).mono ?_
  rintro e w' ⟨rfl, hb⟩
  exact ⟨.slice none 0 0, by simp [h], hb, by rw [charsOk_bad (by omega)]; exact World.ownsRow_nil _ _ _ _⟩
end Go.Proofs.YtlkheofphafofaaGreatDoor
