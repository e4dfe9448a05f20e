/- The program's functions of layer 2, walked. -/
import Derived.Test.YtelfobnmiphdnaaGreatDoorPure
import Derived.Test.YtelfobnmiphdnaaGreatDoorClassP
import Derived.Test.YtelfobnmiphdnaaGreatDoorRunes
namespace Go.Proofs.YtelfobnmiphdnaaGreatDoor
open Go.RowKit

def letterCells (k : IntKind) : Array Value := (letterRanges.flatMap fun p => [Value.int k p.1, Value.int k p.2]).toArray
def zeros (n : Nat) : Array Value := (List.replicate n (Value.int .i32 0)).toArray
theorem zero61 (w : World) : (zeroValue 98).run Tryz.prog w = .ok (.agg (zeros 66)) w := by kernel_rfl
set_option maxRecDepth 100000 in
theorem class_letters (w : World) :
    Calls Tryz.prog 77 #[] w fun e w' => e = .returned (.agg (letterCells .i32)) ∧ Below w.heap.size w w' := by
  have hz := zero61
  go_enter Tryz.func77, Tryz.ntmps77
  go_upto_region 1 with (fail)
  refine wp_region_lit ?_
  refine wpList_run_n 34 (by kernel_rfl) (by kernel_rfl) ?_
  refine wpList_store_row rfl 98 (.tmp 0) (.tmp 34) rfl w.heap.size (letterCells .i32) (by kernel_rfl) (by kernel_rfl) 98 (zeros 66) (heap_alloc_new _ _) (by kernel_rfl) (by kernel_rfl) (by kernel_rfl) ?_
  refine wpList_nil ?_
  generalize hA : (actAfter _ _ _).put _ undef = A
  have hA0 : A.tmps.getD 0 undef = .pointer (some ⟨w.heap.size, 0, none⟩) := by rw [← hA]; kernel_rfl
  have hAd : A.defers = [] := by rw [← hA]; kernel_rfl
  clear hA hz
  obtain ⟨tm, df⟩ := A
  simp only [] at hA0 hAd
  subst hAd
  rename_i hK
  refine hK _ _ (wp_ret ?_)
  refine bodyPost_ret (results_cell_row rfl tm _ w.heap.size 98 (letterCells .i32) (0, 0) _ hA0 ?_ Tryz.underlying98 rfl (by kernel_rfl)) rfl ?_
  · rw [World.setRow_alloc_new]; exact heap_alloc_new _ _
  · exact ⟨rfl, by rw [World.setRow_alloc_new]; exact (Below.refl _ _).alloc (Nat.le_refl _) _⟩
theorem letterCells_at : ∀ i, i < 33 → (letterCells .i32)[2 * i]? = some (.int .i32 (frm letterRanges i)) ∧ (letterCells .i32)[2 * i + 1]? = some (.int .i32 (too letterRanges i)) := by
  intro i hi
  have h : ∀ i : Fin 33, (letterRanges.flatMap fun p => [(p.1 : Int), (p.2 : Int)])[2 * i.val]? = some ((frm letterRanges i.val : Nat) : Int) ∧ (letterRanges.flatMap fun p => [(p.1 : Int), (p.2 : Int)])[2 * i.val + 1]? = some ((too letterRanges i.val : Nat) : Int) := by decide +kernel
  have e : letterCells .i32 = ((letterRanges.flatMap fun p => [(p.1 : Int), (p.2 : Int)]).map (Value.int .i32)).toArray := by
    unfold letterCells
    rw [List.map_flatMap]; rfl
  have := h ⟨i, hi⟩
  rw [e]
  simp only [List.getElem?_toArray, List.getElem?_map]
  rw [this.1, this.2]
  exact ⟨rfl, rfl⟩
set_option maxRecDepth 100000 in
set_option maxHeartbeats 1000000 in
theorem class_Letter (r : Int) (w : World) :
    Calls Tryz.prog 54 #[.int .i32 r] w fun e w' => e = .returned (.bool (letter r)) ∧ Below w.heap.size w w' := by
  have hz := zero61
  go_enter Tryz.func54, Tryz.ntmps54
  go_wp2_with fail
  refine (class_letters _).mono ?_; rintro e w1 ⟨rfl, hb1⟩
  go_wp2_with (refine wpList_store_row rfl 98 (.tmp 3) (.tmp 7) rfl w1.heap.size (letterCells .i32) rfl rfl 98 (zeros 66) (heap_alloc_new _ _) (by kernel_rfl) (by kernel_rfl) (by kernel_rfl) ?_; rw [World.setRow_alloc_new])
  have hcell : ∀ j, (w1.alloc (.cells (letterCells .i32) 98)).cell? ⟨w1.heap.size, j, none⟩ = (letterCells .i32)[j]? := fun j => World.cell?_alloc_at _ _ _ _ rfl
  have hbW : Below w.heap.size w (w1.alloc (.cells (letterCells .i32) 98)) := hb1.alloc hb1.size _
  generalize w1.alloc (.cells (letterCells .i32) 98) = W at *
  generalize w1.heap.size = B at *
  have HC := Lib.hid hcell
  have HB := Lib.hid hbW
  clear hcell hbW hb1 hz
  generalize letterCells .i32 = LC
  go_loop [4, 5] (fun a b => ∃ lo hi : Nat, a = .int .i64 lo ∧ b = .int .i64 hi ∧ lo ≤ hi ∧ hi ≤ 33 ∧ (∀ i, i < lo → (too letterRanges i : Int) < r) ∧ (∀ i, hi ≤ i → i < 33 → r < (frm letterRanges i : Int))) (fun a b => (intOf b - intOf a).toNat)
  case atStart => exact ⟨0, 33, rfl, rfl, by omega, by omega, fun i h => by omega, fun i h1 h2 => by omega⟩
  case round =>
    obtain ⟨lo, hi, rfl, rfl, hle, h33, hlo, hhi⟩ := hrel
    have HLO := Lib.hid hlo; have HHI := Lib.hid hhi
    clear hlo hhi
    by_cases hlt : lo < hi
    · have hmid : (lo + hi) / 2 < 33 := by omega
      have hm := letterCells_at _ hmid
      have hs1 := letters_sorted
      have hsm := letters_small _ hmid
      have hc0 : W.cell? ⟨B, (lo + hi) / 2 * 2, none⟩ = some (.int .i32 (frm letterRanges ((lo + hi) / 2))) := by rw [HC.out, Nat.mul_comm]; exact hm.1
      have hc1 : W.cell? ⟨B, (lo + hi) / 2 * 2 + 1, none⟩ = some (.int .i32 (too letterRanges ((lo + hi) / 2))) := by rw [HC.out, Nat.mul_comm]; exact hm.2
      have HS := Lib.hid hs1
      clear hm hs1
      have hml : lo ≤ (lo + hi) / 2 := by omega
      have hmh : (lo + hi) / 2 < hi := by omega
      generalize hf : frm letterRanges ((lo + hi) / 2) = f at *
      generalize ht : too letterRanges ((lo + hi) / 2) = t at *
      have HF := Lib.hid hf; have HT := Lib.hid ht
      clear hf ht
      go_wp2_with fail
      · have hrf : r < (f : Int) := by assumption
        go_round
        case rel => exact ⟨lo, (lo + hi) / 2, rfl, by go_num, hml, by omega, HLO.out, fun i h1 h2 => by have := (HS.out _ hmid i h2 h1).1; have := HF.out; omega⟩
        case measure => simp [intOf]; omega
      · have hrt : (t : Int) < r := by assumption
        go_round
        case rel => exact ⟨(lo + hi) / 2 + 1, hi, by go_num, rfl, by omega, h33, fun i h1 => by have := (HS.out i (by omega) _ hmid (by omega)).2; have := HT.out; omega, HHI.out⟩
        case measure => simp [intOf]; omega
      · go_ret
        have h1 : (f : Int) ≤ r := by omega
        have h2 : r ≤ (t : Int) := by omega
        exact ⟨ret_bool (by unfold letter; exact (inR_at letterRanges r _ hmid (by rw [HF.out]; exact h1) (by rw [HT.out]; exact h2)).symm), HB.out⟩
    · go_wp2_with fail
      go_ret
      have hno : inR letterRanges r = false := inR_none letterRanges r fun i hi' => by
        by_cases h : i < lo
        · exact Or.inr (HLO.out i h)
        · exact Or.inl (HHI.out i (by omega) hi')
      exact ⟨ret_bool (by unfold letter; exact hno.symm), HB.out⟩
end Go.Proofs.YtelfobnmiphdnaaGreatDoor
