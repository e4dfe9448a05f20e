/- The statement TermBack, walked: the call returns true. -/
import Derived.Test.YtpjglenogifclaaGreatDoorFixPM
namespace Go.Proofs.YtpjglenogifclaaGreatDoor
set_option linter.all false
attribute [local irreducible] Calls
open Go.RowKit

theorem showZ_len {l : List Prt} {T : List UInt8} (h : showZ l = (T, 0)) : T.length ≤ 1048576 := by
  unfold showZ at h
  split at h
  · split at h
    · cases h
    · cases h; omega
  · cases h
set_option maxRecDepth 100000 in
set_option maxHeartbeats 8000000 in
theorem TermBack_walk (w : World) (v : Value) (l : List Prt) (hr : PartRow w v l) (hs : Small l) (s : ByteArray) (hsz : s.size ≤ 1048576) (hH : Held w) :
    Calls Tryz.prog 8 #[v, .string s] w (Answers w) := by
  have HQ : RowKit.Hid (∀ w', Below w.heap.size w w' → Answers w (.returned (.bool true)) w') := Lib.hid fun w' h => Answers.mk h
  generalize Answers w = Q at *
  have hl := hs.1
  have HH := Lib.hid hH
  have CF := Lib.hid (fixed11 w hH)
  have C1 := Lib.hid (fun w' (hb : Below w.heap.size w w') => term_Show l (by omega) hs.fine v w' (hH.below hb).P (hr.below hb))
  have CR := Lib.hid (fun (t : ByteArray) (ht : t.size ≤ 100000000) w' (hb : Below w.heap.size w w') => term_Read t ht w' (hH.below hb).T (hH.below hb).M (hH.below hb).E (hH.below hb).P)
  have HR := Lib.hid hr
  have HSR := Lib.hid (fun (T : List UInt8) (h : showZ l = (T, 0)) => show_read (fun p hp => (hs.2 p hp).1) h)
  have HK := Lib.hid (show s.size ≤ 100000000 by omega)
  have HF := Lib.hid (readZ_fine s)
  have HE := Lib.hid (readZ_err s)
  have HRS := Lib.hid (fun m (h : readZ s = (m, 0)) => read_show h)
  clear hsz hs hH
  obtain ⟨va, vcap, rfl, hvc⟩ := hr.slice
  clear hr
  go_enter Tryz.func8, Tryz.ntmps8
  go_wp2_with fail
  refine CF.out.mono ?_
  rintro e w1 ⟨rfl, hb1⟩
  have HB1 := Lib.hid hb1
  clear hb1 CF
  go_wp2_with fail
  refine (C1.out _ HB1.out).mono ?_
  intro e w2 h
  unfold showPost at h
  obtain ⟨T, x, hz⟩ : ∃ T x, showZ l = (T, x) := ⟨_, _, rfl⟩
  have HZ := Lib.hid hz
  rw [hz] at h
  clear hz
  obtain ⟨rfl, hb2⟩ := h
  have HB2 := Lib.hid (bthen HB1.out hb2)
  clear hb2
  have hx : x = 0 ∨ x ≠ 0 := by omega
  rcases hx with rfl | hx
  have HT := Lib.hid (showZ_len HZ.out)
  have HRD := Lib.hid (HSR.out T HZ.out)
  have C3 := Lib.hid (CR.out ⟨T.toArray⟩ (by have := HT.out; rw [size_data]; show T.length ≤ _; omega) w2 HB2.out)
  go_wp2_with fail
  refine C3.out.mono ?_
  intro e w3 h
  unfold swapPost at h
  rw [HRD.out] at h
  obtain ⟨v3, rfl, hb3, ho3⟩ := h
  have HB3 := Lib.hid (bthen HB2.out hb3)
  have HR3 := Lib.hid (show PartRow w3 v3 l from Row.of_owns ho3)
  have HRL := Lib.hid (HR.out.below HB3.out)
  clear hb3 ho3 C3
  have C4 := Lib.hid (fun w' h1 h2 => term_Same v3 (.slice va l.length vcap) l l (by omega) (by omega) w' h1 h2)
  have C5 := Lib.hid (fun w' h1 h2 => ref_Same11 v3 (.slice va l.length vcap) l l (by omega) (by omega) w' h1 h2)
  go_wp2_with fail
  refine (C4.out w3 HR3.out HRL.out).mono ?_
  rintro e w4 ⟨y, rfl, hy, hb4⟩
  obtain rfl : y = true := hy.mpr rfl
  have HB4 := Lib.hid (bthen HB3.out hb4)
  have HR4 := Lib.hid (HR3.out.below hb4)
  have HRL4 := Lib.hid (HRL.out.below hb4)
  clear hb4 hy
  go_wp2_with fail
  refine (C5.out w4 HR4.out HRL4.out).mono ?_
  rintro e w5 ⟨y, rfl, hy, hb5⟩
  obtain rfl : y = true := hy.mpr rfl
  have HBX := Lib.hid (bthen HB4.out hb5)
  clear hb5 hy HB4 HR4 HRL4 HB3 HR3 HRL C4 C5 HT HRD
  generalize w5 = wx at *
  go_wp2_with fail
  rotate_left
  have hx1 : (x == 0) = false := by rw [beq_eq_false_iff_ne]; exact hx
  have HBX := HB2
  clear hx
  generalize w2 = wx at *
  go_wp2_with fail
  all_goals
    refine (CR.out s HK.out wx HBX.out).mono ?_
    intro e w6 h
    unfold swapPost at h
    obtain ⟨m, f, hz⟩ : ∃ m f, readZ s = (m, f) := ⟨_, _, rfl⟩
    have HZS := Lib.hid hz
    rw [hz] at h
    clear hz
    obtain ⟨v6, rfl, hb6, ho6⟩ := h
    have HB6 := Lib.hid (bthen HBX.out hb6)
    have HR6 := Lib.hid (show PartRow w6 v6 m from Row.of_owns ho6)
    obtain ⟨ma, mcap, rfl, _⟩ := HR6.out.slice
    clear hb6 ho6
    by_cases hf : f = 0
    · subst hf
      obtain ⟨hwm, hsm⟩ := HRS.out m HZS.out
      have hfm : FineR s m ∧ m.length ≤ s.size := by have := HF.out; rw [HZS.out] at this; exact this
      have hks := HK.out
      have C7 := Lib.hid (term_Show m (by omega) (fun p hp => by have := hfm.1 p hp; exact ⟨this.1, by omega⟩) (.slice ma m.length mcap) w6 (HH.out.below HB6.out).P HR6.out)
      have C8 := Lib.hid (fun w' h => term_Well m (by omega) (.slice ma m.length mcap) w' h)
      rw [hwm] at C8
      have HSM := Lib.hid hsm
      clear hwm hsm hfm hks
      go_wp2_with fail
      refine C7.out.mono ?_
      intro e w7 h
      unfold showPost at h
      rw [HSM.out] at h
      obtain ⟨rfl, hb7⟩ := h
      have HB7 := Lib.hid (bthen HB6.out hb7)
      have HR7 := Lib.hid (HR6.out.below hb7)
      have hss : (⟨s.data.toList.toArray⟩ : ByteArray) = s := ByteArray.ext (by simp)
      clear hb7
      simp only [hss]
      clear hss
      go_wp2_with fail
      refine (C8.out w7 HR7.out).mono ?_
      rintro e w8 ⟨rfl, hb8⟩
      have HX := Lib.hid (HQ.out w8 (bthen HB7.out hb8))
      clear hb8
      go_wp2_with fail
      exact HX.out
    · have hf1 : (f == 0) = false := by rw [beq_eq_false_iff_ne]; exact hf
      have hf2 : (f != 0) = true := by rw [bne_iff_ne]; exact hf
      have hm : m = [] := by have := HE.out; rw [HZS.out] at this; exact this hf
      subst hm
      clear hf
      have HX := Lib.hid (HQ.out w6 HB6.out)
      go_wp2_with fail
      exact HX.out
end Go.Proofs.YtpjglenogifclaaGreatDoor
