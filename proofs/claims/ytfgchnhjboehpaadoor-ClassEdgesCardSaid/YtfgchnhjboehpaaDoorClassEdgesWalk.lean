/- The statement ClassEdges, walked: the call returns true. -/
import Derived.Test.YtfgchnhjboehpaaDoorLaw02
import Derived.Test.YtfgchnhjboehpaaDoorRef02
namespace Go.Proofs.YtfgchnhjboehpaaDoor
open Go.RowKit
theorem letter_edges : ∀ k, k < 33 → letter (frm letterRanges k : Nat) = true ∧ letter (too letterRanges k : Nat) = true ∧ letter ((frm letterRanges k : Int) - 1) = false ∧ letter ((too letterRanges k : Int) + 1) = false := by decide +kernel
theorem digit_edges : ∀ k, k < 5 → digit (frm digitRanges k : Nat) = true ∧ digit (too digitRanges k : Nat) = true ∧ digit ((frm digitRanges k : Int) - 1) = false ∧ digit ((too digitRanges k : Int) + 1) = false := by decide +kernel
theorem word_edges : ∀ k, k < 25 → word ⟨(words.getD k []).toArray⟩ = true ∧ name ⟨(words.getD k []).toArray⟩ = false ∧ name (⟨(words.getD k []).toArray⟩ ++ ⟨#[95]⟩) = true ∧ (words.getD k []).length ≤ 20 := by decide +kernel
set_option maxRecDepth 100000 in
set_option maxHeartbeats 8000000 in
theorem ClassEdges_walk (w : World) (_ : True) (hT : Tabs w) :
    Calls Tryd.prog 12 #[] w fun e w' => e = .returned (.bool true) ∧ Below w.heap.size w w' := by
  have hR0 := row_lit w (letterCells .i64) 51 33 2 (by decide +kernel)
  rw [letterCells_vals] at hR0
  have HR0 := Lib.hid hR0
  have HC := Lib.hid (ref_Letters w)
  have HB := Lib.hid ((Below.refl _ w).alloc (Nat.le_refl _) (.cells (letterCells .i64) 51))
  clear hR0
  go_enter Tryd.func12, Tryd.ntmps12
  go_wp2_with fail
  refine HC.out.mono ?_; rintro e w1 ⟨rfl, rfl⟩
  generalize letterCells .i64 = C at *
  generalize hW : w.alloc (.cells C 51) = W at *
  have hbW := HB.out
  obtain ⟨_, a, cap, he, _, _, hcell⟩ := HR0.out
  simp only [Value.slice.injEq] at he
  obtain ⟨rfl, _, rfl⟩ := he
  obtain ⟨b, off, hbo, hbl, hcl⟩ := hcell (by omega)
  simp only [Option.some.injEq, Addr.mk.injEq] at hbo
  obtain ⟨rfl, rfl, _⟩ := hbo
  have HCL := Lib.hid hcl
  clear hcl hcell HR0 HC HB hW
  go_wp2_with fail
  go_loopw [2] (fun i wr => ∃ k : Nat, i = .int .i64 k ∧ k ≤ 33 ∧ Below W.heap.size W wr) (fun i _ => 33 - (intOf i).toNat)
  case atStart => exact ⟨0, rfl, Nat.zero_le _, Below.refl _ _⟩
  case round =>
    obtain ⟨k, rfl, hk, hb⟩ := hrel
    by_cases hlt : k < 33
    · have hv := rangeVals_at letterRanges k hlt
      have h0 : wr.cell? ⟨w.heap.size, k * 2, none⟩ = some (.int .i64 (frm letterRanges k)) := by rw [hb.cell (p := ⟨w.heap.size, k * 2, none⟩) hbl]; have := HCL.out (k * 2) (by omega); rw [Nat.zero_add] at this; rw [this]; exact hv.1
      have h1 : wr.cell? ⟨w.heap.size, k * 2 + 1, none⟩ = some (.int .i64 (too letterRanges k)) := by rw [hb.cell (p := ⟨w.heap.size, k * 2 + 1, none⟩) hbl]; have := HCL.out (k * 2 + 1) (by omega); rw [Nat.zero_add] at this; rw [this]; exact hv.2
      have hE := letter_edges k hlt
      have hsm := letters_small' k hlt
      generalize frm letterRanges k = f at *
      generalize too letterRanges k = t at *
      have C1 := Lib.hid (fun w => class_Letter f w)
      have C2 := Lib.hid (fun w => class_Letter t w)
      have C3 := Lib.hid (fun w => class_Letter ((f : Int) - 1) w)
      have C4 := Lib.hid (fun w => class_Letter ((t : Int) + 1) w)
      rw [hE.1] at C1; rw [hE.2.1] at C2; rw [hE.2.2.1] at C3; rw [hE.2.2.2] at C4
      clear hv hE
      go_wp2_with fail
      refine (C1.out _).mono ?_; rintro e w2 ⟨rfl, hb2⟩
      have hbs := bthen hb hb2
      have g0 := (hb2.cell (p := ⟨w.heap.size, k * 2, none⟩) (Nat.lt_of_lt_of_le hbl hb.size)).trans h0
      have g1 := (hb2.cell (p := ⟨w.heap.size, k * 2 + 1, none⟩) (Nat.lt_of_lt_of_le hbl hb.size)).trans h1
      clear h0 h1
      go_wp2_with fail
      refine (C2.out _).mono ?_; rintro e w3 ⟨rfl, hb3⟩
      have hbs3 := bthen hbs hb3
      have q0 := (hb3.cell (p := ⟨w.heap.size, k * 2, none⟩) (Nat.lt_of_lt_of_le hbl (hb.trans (hb2.mono hb.size)).size)).trans g0
      have q1 := (hb3.cell (p := ⟨w.heap.size, k * 2 + 1, none⟩) (Nat.lt_of_lt_of_le hbl (hb.trans (hb2.mono hb.size)).size)).trans g1
      clear g0 g1
      go_wp2_with fail
      refine (C3.out _).mono ?_; rintro e w4 ⟨rfl, hb4⟩
      have hbs4 := bthen hbs3 hb4
      have p1 := (hb4.cell (p := ⟨w.heap.size, k * 2 + 1, none⟩) (Nat.lt_of_lt_of_le hbl hbs3.size)).trans q1
      clear q0 q1
      go_wp2_with fail
      refine (C4.out _).mono ?_; rintro e w5 ⟨rfl, hb5⟩
      have hbs5 := bthen hbs4 hb5
      clear p1
      go_wp2_with fail
      go_roundw
      case rel => exact ⟨k + 1, by go_num, by omega, hbs5⟩
      case measure => simp [intOf]; omega
    · have hbw := bthen hbW hb
      clear hbW hb hbl HCL
      obtain ⟨wo, rfl⟩ : ∃ x : World, x = wr := ⟨_, rfl⟩
      have hR0 := row_lit wo (digitCells .i64) 51 5 2 (by decide +kernel)
      rw [digitCells_vals] at hR0
      have HR0 := Lib.hid hR0
      have HC := Lib.hid (ref_Digits wo)
      have HB := Lib.hid ((Below.refl _ wo).alloc (Nat.le_refl _) (.cells (digitCells .i64) 51))
      clear hR0
      go_wp2_with fail
      refine HC.out.mono ?_; rintro e w1 ⟨rfl, rfl⟩
      generalize digitCells .i64 = D at *
      generalize hV : wo.alloc (.cells D 51) = V at *
      have hbV := HB.out
      obtain ⟨_, a, cap, he, _, _, hcell⟩ := HR0.out
      simp only [Value.slice.injEq] at he
      obtain ⟨rfl, _, rfl⟩ := he
      obtain ⟨b, off, hbo, hbl, hcl⟩ := hcell (by omega)
      simp only [Option.some.injEq, Addr.mk.injEq] at hbo
      obtain ⟨rfl, rfl, _⟩ := hbo
      have HCL := Lib.hid hcl
      clear hcl hcell HR0 HC HB hV
      have hbwV := bthen hbw hbV
      go_wp2_with fail
      go_loopw [4] (fun i wr => ∃ k : Nat, i = .int .i64 k ∧ k ≤ 5 ∧ Below V.heap.size V wr) (fun i _ => 5 - (intOf i).toNat)
      case atStart => exact ⟨0, rfl, Nat.zero_le _, Below.refl _ _⟩
      case round =>
        obtain ⟨k, rfl, hk, hb⟩ := hrel
        by_cases hlt : k < 5
        · have hv := rangeVals_at digitRanges k hlt
          have h0 : wr.cell? ⟨wo.heap.size, k * 2, none⟩ = some (.int .i64 (frm digitRanges k)) := by rw [hb.cell (p := ⟨wo.heap.size, k * 2, none⟩) hbl]; have := HCL.out (k * 2) (by omega); rw [Nat.zero_add] at this; rw [this]; exact hv.1
          have h1 : wr.cell? ⟨wo.heap.size, k * 2 + 1, none⟩ = some (.int .i64 (too digitRanges k)) := by rw [hb.cell (p := ⟨wo.heap.size, k * 2 + 1, none⟩) hbl]; have := HCL.out (k * 2 + 1) (by omega); rw [Nat.zero_add] at this; rw [this]; exact hv.2
          have hE := digit_edges k hlt
          have hsm := digits_small k hlt
          generalize frm digitRanges k = f at *
          generalize too digitRanges k = t at *
          have C1 := Lib.hid (fun w => class_Digit f (by omega) w)
          have C2 := Lib.hid (fun w => class_Digit t (by omega) w)
          have C3 := Lib.hid (fun w => class_Digit ((f : Int) - 1) (by omega) w)
          have C4 := Lib.hid (fun w => class_Digit ((t : Int) + 1) (by omega) w)
          rw [hE.1] at C1; rw [hE.2.1] at C2; rw [hE.2.2.1] at C3; rw [hE.2.2.2] at C4
          clear hv hE
          go_wp2_with fail
          refine (C1.out _).mono ?_; rintro e w2 ⟨rfl, rfl⟩
          go_wp2_with fail
          refine (C2.out _).mono ?_; rintro e w2 ⟨rfl, rfl⟩
          go_wp2_with fail
          refine (C3.out _).mono ?_; rintro e w2 ⟨rfl, rfl⟩
          go_wp2_with fail
          refine (C4.out _).mono ?_; rintro e w2 ⟨rfl, rfl⟩
          go_wp2_with fail
          go_roundw
          case rel => exact ⟨k + 1, by go_num, by omega, hb⟩
          case measure => simp [intOf]; omega
        · have hbq := bthen hbwV hb
          clear hbwV hbw hb hbl HCL hbV
          obtain ⟨wp, rfl⟩ : ∃ x : World, x = wr := ⟨_, rfl⟩
          have HC := Lib.hid (ref_Words wp)
          have HW := Lib.hid wordVals_at
          have HB := Lib.hid ((Below.refl _ wp).alloc (Nat.le_refl _) (.cells wordVals 9))
          have hcell : ∀ j, (wp.alloc (.cells wordVals 9)).cell? ⟨wp.heap.size, j, none⟩ = wordVals[j]? := fun j => World.cell?_alloc_at _ _ _ _ rfl
          have hlt2 : wp.heap.size < (wp.alloc (.cells wordVals 9)).heap.size := by simp
          have HCL := Lib.hid hcell
          clear hcell
          generalize wordVals = Z at *
          go_wp2_with fail
          refine HC.out.mono ?_; rintro e w1 ⟨rfl, rfl⟩
          generalize wp.alloc (.cells Z 9) = U at *
          have hbU := bthen hbq HB.out
          clear HB HC
          go_wp2_with fail
          go_loopw [6] (fun i wr => ∃ k : Nat, i = .int .i64 k ∧ k ≤ 25 ∧ Below U.heap.size U wr) (fun i _ => 25 - (intOf i).toNat)
          case atStart => exact ⟨0, rfl, Nat.zero_le _, Below.refl _ _⟩
          case round =>
            obtain ⟨k, rfl, hk, hb⟩ := hrel
            have hbz := bthen hbU hb
            by_cases hlt : k < 25
            · have h0 : wr.cell? ⟨wp.heap.size, k, none⟩ = some (.string ⟨(words.getD k []).toArray⟩) := by rw [hb.cell (p := ⟨wp.heap.size, k, none⟩) hlt2, HCL.out, HW.out k hlt]
              have hE := word_edges k hlt
              generalize hx : (⟨(words.getD k []).toArray⟩ : ByteArray) = x at *
              have hsz : x.size ≤ 20 := by rw [← hx]; exact hE.2.2.2
              have C1 := Lib.hid (fun w => class_Word x w)
              have C2 := Lib.hid (fun w hT => class_Name x w hT)
              have C3 := Lib.hid (fun w hT => class_Name (x ++ ⟨#[95]⟩) w hT)
              rw [hE.1] at C1; rw [hE.2.1] at C2; rw [hE.2.2.1] at C3
              clear hE hx
              go_wp2_with fail
              refine (C1.out _).mono ?_; rintro e w2 ⟨rfl, rfl⟩
              go_wp2_with fail
              refine (C2.out _ (hT.below hbz)).mono ?_; rintro e w2 ⟨rfl, hb2⟩
              have hbz2 := bthen hbz hb2
              have g0 := (hb2.cell (p := ⟨wp.heap.size, k, none⟩) (Nat.lt_of_lt_of_le hlt2 hb.size)).trans h0
              clear h0
              go_wp2_with fail
              refine (C3.out _ (hT.below hbz2)).mono ?_; rintro e w3 ⟨rfl, hb3⟩
              clear g0
              go_wp2_with fail
              go_roundw
              case rel => exact ⟨k + 1, by go_num, by omega, bthen (bthen hb hb2) hb3⟩
              case measure => simp [intOf]; omega
            · go_wp2_with fail
              refine (law02_fixed _ (hT.below hbz)).mono ?_; rintro e w4 ⟨rfl, hb4⟩
              go_wp2_with fail
              go_ret
              exact ⟨rfl, bthen hbz hb4⟩
end Go.Proofs.YtfgchnhjboehpaaDoor
