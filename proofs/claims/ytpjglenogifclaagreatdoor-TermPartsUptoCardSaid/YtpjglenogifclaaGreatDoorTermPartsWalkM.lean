/- The statement TermParts, walked: the call returns true. -/
import Derived.Test.YtpjglenogifclaaGreatDoorFixPM
import Derived.Test.YtpjglenogifclaaGreatDoorQuotedM
namespace Go.Proofs.YtpjglenogifclaaGreatDoor
set_option linter.all false
attribute [local irreducible] Calls
open Go.RowKit

theorem parts_no {l : List Prt} {i : Int} (h : ¬ (wellB l = true ∧ 0 ≤ i ∧ i < l.length)) : endOf l i = -1 ∧ upOf l i = -1 ∧ kidsOf l i = [] := by
  refine ⟨by unfold endOf; rw [if_neg h], ?_, by unfold kidsOf; rw [if_neg h]⟩
  unfold upOf
  rw [if_neg (fun hc => h ⟨hc.1, by omega, hc.2.2⟩)]
theorem parts_yes {l : List Prt} (hw : wellB l = true) {i : Nat} (hi : i < l.length) : endOf l i = (endB l i : Int) ∧ upOf l i = upI l i i ∧ kidsOf l i = (kidsB l i).map fun (x : Nat) => (x : Int) := by
  refine ⟨by unfold endOf; rw [if_pos ⟨hw, by omega, by omega⟩, Int.toNat_natCast], ?_, by unfold kidsOf; rw [if_pos ⟨hw, by omega, by omega⟩, Int.toNat_natCast]⟩
  unfold upOf
  by_cases h0 : 0 < i
  · rw [if_pos ⟨hw, by omega, by omega⟩, Int.toNat_natCast]
  · obtain rfl : i = 0 := by omega
    rw [if_neg (by omega)]; rfl
set_option maxRecDepth 100000 in
set_option maxHeartbeats 8000000 in
theorem TermParts_walk (w : World) (v : Value) (l : List Prt) (hr : PartRow w v l) (hs : Small l) (i : Int) (hH : Held w) :
    Calls Tryz.prog 10 #[v, .int .i64 i] w (Answers w) := by
  have HQ : RowKit.Hid (∀ w', Below w.heap.size w w' → Answers w (.returned (.bool true)) w') := Lib.hid fun w' h => Answers.mk h
  generalize Answers w = Q at *
  have hl := hs.1
  have CF := Lib.hid (fun w' (hb : Below w.heap.size w w') => fixed11 w' (hH.below hb))
  have C1 := Lib.hid (term_End l (by omega) v i w hr)
  have C2 := Lib.hid (fun w' (hb : Below w.heap.size w w') => term_Up l (by omega) v i w' (hr.below hb))
  have C3 := Lib.hid (fun w' (hb : Below w.heap.size w w') => term_Kids l (by omega) v i w' (hr.below hb))
  have C4 := Lib.hid (fun w' (hb : Below w.heap.size w w') => ref_Well11 l (by omega) v w' (hr.below hb))
  have HR := Lib.hid hr
  obtain ⟨va, vcap, rfl, hvc⟩ := hr.slice
  clear hr hs hH
  by_cases hbig : 200 < l.length
  · have h1' : (200 : Int) < l.length := by omega
    go_enter Tryz.func10, Tryz.ntmps10
    go_wp2_with fail
    refine (CF.out _ (Below.refl _ _)).mono ?_
    rintro e w4 ⟨rfl, hb4⟩
    have HX := Lib.hid (HQ.out w4 hb4)
    clear hb4
    go_wp2_with fail
    exact HX.out
  · have h1' : ¬ (200 : Int) < l.length := by omega
    by_cases hin : wellB l = true ∧ 0 ≤ i ∧ i < l.length
    · obtain ⟨hw, h0, h1⟩ := hin
      obtain ⟨I, rfl⟩ : ∃ I : Nat, i = (I : Int) := ⟨i.toNat, by omega⟩
      have hI : I < l.length := by omega
      obtain ⟨e1, e2, e3⟩ := parts_yes hw hI
      have E1 := Lib.hid e1; have E2 := Lib.hid e2; have E3 := Lib.hid e3
      have hn0 : ¬ (I : Int) < 0 := by omega
      have hn1 : ¬ (l.length : Int) ≤ I := by omega
      have hkl : (kidsB l I).length ≤ 1000000000 := by
        obtain ⟨ts, q, g1, g2, g3, g4, g5⟩ := kids_facts (well_rows hw) hI
        rw [g5, List.length_take, starts_length]
        have := (rowsB_sum g1).2.1
        rw [List.length_drop] at this
        omega
      have C5 := Lib.hid (fun w' hr' => ref_End11 l (by omega) (.slice va l.length vcap) I (by omega) w' hr')
      rw [endR_end (well_rows hw) hI] at C5
      have C6 := Lib.hid (fun w' hr' => ref_Up11 l (by omega) _ (well_rows hw) (.slice va l.length vcap) I hI w' hr')
      have C7 := Lib.hid (fun w' hr' => ref_Kids11 l (by omega) _ (well_rows hw) (.slice va l.length vcap) I hI w' hr')
      simp only [endI] at C5
      have C5 := Lib.hid C5.out
      have HW := Lib.hid hw
      clear e1 e2 e3 hw
      go_enter Tryz.func10, Tryz.ntmps10
      go_wp2_with fail
      refine C1.out.mono ?_
      rw [E1.out]
      generalize (endB l I : Int) = x1 at *
      rintro e w1 ⟨rfl, hb1⟩
      have HB1 := Lib.hid hb1
      clear hb1
      go_wp2_with fail
      refine (C2.out _ HB1.out).mono ?_
      rw [E2.out]
      generalize upI l I I = x2 at *
      rintro e w2 ⟨rfl, hb2⟩
      have HB2 := Lib.hid (bthen HB1.out hb2)
      clear hb2
      go_wp2_with fail
      refine (C3.out _ HB2.out).mono ?_
      rw [E3.out]
      intro e w3 h
      unfold kidsPost at h
      obtain ⟨v3, rfl, hb3, hr3⟩ := h
      have HB3 := Lib.hid (bthen HB2.out hb3)
      have HR3 := Lib.hid hr3
      clear hb3 hr3
      have C4 := Lib.hid (C4.out _ HB3.out)
      rw [HW.out] at C4
      go_wp2_with fail
      refine C4.out.mono ?_
      rintro e w' ⟨rfl, rfl⟩
      go_wp2_with fail
      refine (CF.out _ HB3.out).mono ?_
      rintro e w4 ⟨rfl, hb4⟩
      have HB4 := Lib.hid (bthen HB3.out hb4)
      have HR4 := Lib.hid (HR3.out.below hb4)
      clear hb4
      go_wp2_with fail
      refine (C5.out _ (HR.out.below HB4.out)).mono ?_
      rintro e w' ⟨rfl, rfl⟩
      go_wp2_with fail
      refine (C6.out _ (HR.out.below HB4.out)).mono ?_
      rintro e w' ⟨rfl, rfl⟩
      go_wp2_with fail
      refine (C7.out _ (HR.out.below HB4.out)).mono ?_
      intro e w5 h
      unfold kidsPost at h
      obtain ⟨v5, rfl, hb5, hr5⟩ := h
      have HB5 := Lib.hid (bthen HB4.out hb5)
      have CI := ref_Ints v3 v5 _ _ (by rw [List.length_map]; exact hkl) (by rw [List.length_map]; exact hkl) w5 (HR4.out.below hb5) hr5
      rw [decide_eq_true rfl] at CI
      have CI := Lib.hid CI
      clear hb5 hr5
      go_wp2_with fail
      refine CI.out.mono ?_
      rintro e w6 ⟨rfl, hb6⟩
      have HX := Lib.hid (HQ.out w6 (bthen HB5.out hb6))
      clear hb6
      go_wp2_with fail
      exact HX.out
    · obtain ⟨e1, e2, e3⟩ := parts_no hin
      have E1 := Lib.hid e1; have E2 := Lib.hid e2; have E3 := Lib.hid e3
      have HN := Lib.hid hin
      clear e1 e2 e3 hin
      go_enter Tryz.func10, Tryz.ntmps10
      go_wp2_with fail
      refine C1.out.mono ?_
      rw [E1.out]
      rintro e w1 ⟨rfl, hb1⟩
      have HB1 := Lib.hid hb1
      clear hb1
      go_wp2_with fail
      refine (C2.out _ HB1.out).mono ?_
      rw [E2.out]
      rintro e w2 ⟨rfl, hb2⟩
      have HB2 := Lib.hid (bthen HB1.out hb2)
      clear hb2
      go_wp2_with fail
      refine (C3.out _ HB2.out).mono ?_
      rw [E3.out]
      intro e w3 h
      unfold kidsPost at h
      obtain ⟨v3, rfl, hb3, hr3⟩ := h
      have HB3 := Lib.hid (bthen HB2.out hb3)
      obtain ⟨ka, kcap, rfl, _, _⟩ := hr3.open'
      clear hb3 hr3
      have CF3 := Lib.hid (CF.out _ HB3.out)
      have C4 := Lib.hid (C4.out _ HB3.out)
      by_cases hw : wellB l = true
      · have h2 : i < 0 ∨ (0 ≤ i ∧ (l.length : Int) ≤ i) := by
          have h := HN.out
          have h' : ¬ (0 ≤ i ∧ i < l.length) := fun c => h ⟨hw, c⟩
          omega
        rw [hw] at C4
        clear hw
        rcases h2 with h2 | ⟨h2, h3⟩
        · go_wp2_with fail
          refine C4.out.mono ?_
          rintro e w' ⟨rfl, rfl⟩
          go_wp2_with fail
          refine CF3.out.mono ?_
          rintro e w4 ⟨rfl, hb4⟩
          have HX := Lib.hid (HQ.out w4 (bthen HB3.out hb4))
          clear hb4
          go_wp2_with fail
          exact HX.out
        · have h2' : ¬ i < 0 := by omega
          go_wp2_with fail
          refine C4.out.mono ?_
          rintro e w' ⟨rfl, rfl⟩
          go_wp2_with fail
          refine CF3.out.mono ?_
          rintro e w4 ⟨rfl, hb4⟩
          have HX := Lib.hid (HQ.out w4 (bthen HB3.out hb4))
          clear hb4
          go_wp2_with fail
          exact HX.out
      · rw [Bool.not_eq_true] at hw
        rw [hw] at C4
        clear hw
        go_wp2_with fail
        refine C4.out.mono ?_
        rintro e w' ⟨rfl, rfl⟩
        go_wp2_with fail
        refine CF3.out.mono ?_
        rintro e w4 ⟨rfl, hb4⟩
        have HX := Lib.hid (HQ.out w4 (bthen HB3.out hb4))
        clear hb4
        go_wp2_with fail
        exact HX.out
end Go.Proofs.YtpjglenogifclaaGreatDoor
