/- The reference's Bad and All of layer 1, walked. -/
import Derived.Test.YtfgchnhjboehpaaDoorRunes
import Derived.Test.YtfgchnhjboehpaaDoorRef01
namespace Go.Proofs.YtfgchnhjboehpaaDoor
open Go.RowKit

theorem rd_bnd (s : ByteArray) (i : Nat) (h : i < s.size) : i + (rd s i).2 ≤ s.size := by
  have := rd_width s i; omega
set_option maxHeartbeats 1000000 in
theorem ref_Bad (s : ByteArray) (w : World) (hs : s.size ≤ 4611686018427387904) :
    Calls Tryd.prog 24 #[.string s] w fun e w' => e = .returned (.int .i64 (bad s)) ∧ Below w.heap.size w w' := by
  go_enter Tryd.func24, Tryd.ntmps24
  go_wp2_with fail
  go_loopw [3] (fun a wr => ∃ pos : Nat, a = .int .i64 pos ∧ pos ≤ s.size ∧ bad s = badZ (scan s pos).2 ∧ Below w.heap.size w wr) (fun a _ => s.size - (intOf a).toNat)
  case atStart => exact ⟨0, rfl, Nat.zero_le _, by unfold bad; rfl, Below.refl _ _⟩
  case round =>
    obtain ⟨pos, rfl, hpos, hbad, hb⟩ := hrel
    have HB := Lib.hid hbad
    clear hbad
    by_cases hp : pos < s.size
    · have C := fun w => ref_Read s pos w (by omega)
      rw [rdI_nat] at C
      by_cases h0 : (rd s pos).2 = 0
      · have HR := Lib.hid (scan_bad hp h0)
        have h1 : (((rd s pos).2 : Int) == 0) = true := by simp [h0]
        generalize rd s pos = d at *
        obtain ⟨d1, d2⟩ := d
        have C' := Lib.hid C
        clear C h0
        go_wp2_with (go_at_call 16; refine (C'.out _).mono ?_; rintro e w' ⟨rfl, hb'⟩)
        go_ret
        exact ⟨ret_int (by rw [HB.out, HR.out]; rfl), hb.trans (hb'.mono hb.size)⟩
      · have HR := Lib.hid (scan_step hp h0)
        have hb2 := rd_bnd s pos hp
        have h1 : (((rd s pos).2 : Int) == 0) = false := by simp [h0]
        have h2 : 0 < (rd s pos).2 := by omega
        generalize rd s pos = d at *
        obtain ⟨d1, d2⟩ := d
        have C' := Lib.hid C
        clear C h0
        simp only [] at *
        go_wp2_with (go_at_call 16; refine (C'.out _).mono ?_; rintro e w' ⟨rfl, hb'⟩)
        go_roundw
        case rel => exact ⟨pos + d2, by go_num, hb2, by rw [HB.out, HR.out], hb.trans (hb'.mono hb.size)⟩
        case measure => simp [intOf]; omega
    · have HR := Lib.hid (scan_end (s := s) (i := pos) (by omega))
      go_wp2_with fail
      go_ret
      exact ⟨ret_int (by rw [HB.out, HR.out]; rfl), hb⟩

set_option maxHeartbeats 1000000 in
theorem ref_All_bad (s : ByteArray) (w : World) (hs : s.size ≤ 1099511627775) (hbad : 0 ≤ bad s) :
    Calls Tryd.prog 22 #[.string s] w fun e w' => e = .returned (.tuple #[.slice none 0 0, .bool false]) ∧ Below w.heap.size w w' := by
  have HX := Lib.hid (show (scan s 0).2 ≠ none from fun h => by have := (bad_neg s).2 h; omega)
  have HL := Lib.hid (scan_length s 0)
  go_enter Tryd.func22, Tryd.ntmps22
  go_wp2_with fail
  go_loopw [4, 5] (fun v a wr => ∃ pos : Nat, a = .int .i64 pos ∧ pos ≤ s.size ∧ ∃ l : List Nat, l ++ (scan s pos).1 = (scan s 0).1 ∧ (scan s pos).2 = (scan s 0).2 ∧ Below w.heap.size w wr ∧ wr.ownsRow w.heap.size 2 1 v l.length (longVals l)) (fun _ a _ => s.size - (intOf a).toNat)
  case atStart => exact ⟨0, rfl, Nat.zero_le _, [], rfl, rfl, Below.refl _ _, World.ownsRow_nil _ _ _ _⟩
  case round =>
    obtain ⟨pos, rfl, hpos, l, hl, hnn, hb, hown⟩ := hrel
    have HN := Lib.hid hnn
    have HLL := Lib.hid hl
    have hll : l.length ≤ 1099511627775 := by
      have h1 := HL.out; have h2 := congrArg List.length hl; rw [List.length_append] at h2; omega
    clear hl hnn
    by_cases hp : pos < s.size
    · have C := fun w => ref_Read s pos w (by omega)
      rw [rdI_nat] at C
      by_cases h0 : (rd s pos).2 = 0
      · have h1 : (((rd s pos).2 : Int) == 0) = true := by simp [h0]
        generalize rd s pos = d at *
        obtain ⟨d1, d2⟩ := d
        have C' := Lib.hid C
        clear C h0
        go_wp2_with (go_at_call 16; refine (C'.out _).mono ?_; rintro e w' ⟨rfl, hb'⟩)
        go_ret2
        exact ⟨rfl, hb.trans (hb'.mono hb.size)⟩
      · have HR := Lib.hid (scan_step hp h0)
        have hb2 := rd_bnd s pos hp
        have h1 : (((rd s pos).2 : Int) == 0) = false := by simp [h0]
        have h2 : 0 < (rd s pos).2 := by omega
        generalize rd s pos = d at *
        obtain ⟨d1, d2⟩ := d
        have C' := Lib.hid C
        clear C h0
        simp only [] at *
        go_wp2_with fail
        refine (C'.out _).mono ?_
        rintro e w' ⟨rfl, hb'⟩
        have hown2 := owns_below hown hb'
        have hb3 := hb.trans (hb'.mono hb.size)
        clear hown hb'
        go_wp2_with (at_builtin; refine wpList_append_lit w' #[.int .i64 (d1 : Int)] _ rfl _ _ 35 2 rfl Tryd.underlying35 w.heap.size info_i64 rfl (by decide) _ _ _ rfl hown2 1 1 rfl rfl (by decide) ?_ ?_ ?_ ?_ ?_)
        · rfl
        · omega
        · omega
        · exact hb3.size
        · intro v' w' hown3 hgr _
          have hb4 := grown_below hb3 hb3.size hown2 hgr
          clear hown2 hgr hb3
          go_wp2_with fail
          go_roundw
          case rel => exact ⟨pos + d2, by go_num, hb2, l ++ [d1], by rw [← HLL.out, HR.out]; simp, by rw [← HN.out, HR.out], hb4, by simpa [longVals] using hown3⟩
          case measure => simp [intOf]; omega
    · exfalso
      exact HX.out (by rw [← HN.out, scan_end (by omega)])
set_option maxHeartbeats 1000000 in
theorem ref_All (s : ByteArray) (w : World) (hs : s.size ≤ 1099511627775) (hbad : bad s < 0) :
    Calls Tryd.prog 22 #[.string s] w fun e w' => ∃ v, e = .returned (.tuple #[v, .bool true]) ∧ Below w.heap.size w w' ∧ w'.ownsRow w.heap.size 2 1 v (chars s).length (longVals (chars s)) := by
  have HX := Lib.hid ((bad_neg s).1 hbad)
  have HL := Lib.hid (scan_length s 0)
  have HC := Lib.hid (show chars s = (scan s 0).1 by unfold chars; rfl)
  go_enter Tryd.func22, Tryd.ntmps22
  go_wp2_with fail
  go_loopw [4, 5] (fun v a wr => ∃ pos : Nat, a = .int .i64 pos ∧ pos ≤ s.size ∧ ∃ l : List Nat, l ++ (scan s pos).1 = (scan s 0).1 ∧ (scan s pos).2 = (scan s 0).2 ∧ Below w.heap.size w wr ∧ wr.ownsRow w.heap.size 2 1 v l.length (longVals l)) (fun _ a _ => s.size - (intOf a).toNat)
  case atStart => exact ⟨0, rfl, Nat.zero_le _, [], rfl, rfl, Below.refl _ _, World.ownsRow_nil _ _ _ _⟩
  case round =>
    obtain ⟨pos, rfl, hpos, l, hl, hnn, hb, hown⟩ := hrel
    have HN := Lib.hid hnn
    have HLL := Lib.hid hl
    have hll : l.length ≤ 1099511627775 := by
      have h1 := HL.out; have h2 := congrArg List.length hl; rw [List.length_append] at h2; omega
    clear hl hnn
    by_cases hp : pos < s.size
    · have C := fun w => ref_Read s pos w (by omega)
      rw [rdI_nat] at C
      by_cases h0 : (rd s pos).2 = 0
      · exfalso
        have h1 := HN.out
        rw [scan_bad hp h0, HX.out] at h1
        cases h1
      · have HR := Lib.hid (scan_step hp h0)
        have hb2 := rd_bnd s pos hp
        have h1 : (((rd s pos).2 : Int) == 0) = false := by simp [h0]
        have h2 : 0 < (rd s pos).2 := by omega
        generalize rd s pos = d at *
        obtain ⟨d1, d2⟩ := d
        have C' := Lib.hid C
        clear C h0
        simp only [] at *
        go_wp2_with fail
        refine (C'.out _).mono ?_
        rintro e w' ⟨rfl, hb'⟩
        have hown2 := owns_below hown hb'
        have hb3 := hb.trans (hb'.mono hb.size)
        clear hown hb'
        go_wp2_with (at_builtin; refine wpList_append_lit w' #[.int .i64 (d1 : Int)] _ rfl _ _ 35 2 rfl Tryd.underlying35 w.heap.size info_i64 rfl (by decide) _ _ _ rfl hown2 1 1 rfl rfl (by decide) ?_ ?_ ?_ ?_ ?_)
        · rfl
        · omega
        · omega
        · exact hb3.size
        · intro v' w' hown3 hgr _
          have hb4 := grown_below hb3 hb3.size hown2 hgr
          clear hown2 hgr hb3
          go_wp2_with fail
          go_roundw
          case rel => exact ⟨pos + d2, by go_num, hb2, l ++ [d1], by rw [← HLL.out, HR.out]; simp, by rw [← HN.out, HR.out], hb4, by simpa [longVals] using hown3⟩
          case measure => simp [intOf]; omega
    · have e1 : l = chars s := by
        have h1 := HLL.out
        rw [scan_end (by omega), ← HC.out] at h1
        simpa using h1
      go_wp2_with fail
      go_ret2
      exact ⟨_, rfl, hb, by rw [← e1]; exact hown⟩
end Go.Proofs.YtfgchnhjboehpaaDoor
