/- The statement TermReads, walked: the call returns true. -/
import Derived.Test.YtpjglenogifclaaGreatDoorFixPM
import Derived.Test.YtpjglenogifclaaGreatDoorReadM
namespace Go.Proofs.YtpjglenogifclaaGreatDoor
set_option linter.all false
attribute [local irreducible] Calls
open Go.RowKit

set_option maxRecDepth 100000 in
set_option maxHeartbeats 8000000 in
theorem TermReads_walk (s : ByteArray) (hs : s.size ≤ 1048576) (w : World) (hH : Held w) :
    Calls Tryz.prog 6 #[.string s] w (Answers w) := by
  have HQ : RowKit.Hid (∀ w', Below w.heap.size w w' → Answers w (.returned (.bool true)) w') := Lib.hid fun w' h => Answers.mk h
  generalize Answers w = Q at *
  have CF := Lib.hid (fun w' (hb : Below w.heap.size w w') => fixed11 w' (hH.below hb))
  have C1 := Lib.hid (term_Read s (by omega) w hH.T hH.M hH.E hH.P)
  have C2 := Lib.hid (fun w' => ref_Read11 s (by omega) w')
  have HM := Lib.hid (readZ_fine s).2
  have hsi : (s.size : Int) ≤ 1048576 := by omega
  clear hH
  by_cases hbig : 4000 < s.size
  · have hb1 : (4000 : Int) < s.size := by omega
    go_enter Tryz.func6, Tryz.ntmps6
    go_wp2_with fail
    refine (CF.out _ (Below.refl _ _)).mono ?_
    rintro e w4 ⟨rfl, hb4⟩
    have HX := Lib.hid (HQ.out w4 hb4)
    clear hb4
    go_wp2_with fail
    exact HX.out
  have hb1 : ¬ (4000 : Int) < s.size := by omega
  go_enter Tryz.func6, Tryz.ntmps6
  go_wp2_with fail
  refine C1.out.mono ?_
  intro e w1 h
  unfold swapPost at h
  generalize readZ s = z at *
  obtain ⟨v1, rfl, hb1, ho1⟩ := h
  have HB1 := Lib.hid hb1
  have HR1 := Lib.hid (show PartRow w1 v1 z.1 from Row.of_owns ho1)
  clear hb1 ho1 C1
  go_wp2_with fail
  refine (C2.out _).mono ?_
  intro e w2 h
  unfold swapPost at h
  obtain ⟨v2, rfl, hb2, ho2⟩ := h
  have HR2 := Lib.hid (show PartRow w2 v2 z.1 from Row.of_owns ho2)
  have HR1 := Lib.hid (HR1.out.below hb2)
  have HB2 := Lib.hid (bthen HB1.out hb2)
  clear hb2 ho2 C2 HB1
  go_wp2_with fail
  refine (CF.out _ HB2.out).mono ?_
  rintro e w4 ⟨rfl, hb4⟩
  have HB4 := Lib.hid (bthen HB2.out hb4)
  have CS := Lib.hid (ref_Same11 v1 v2 z.1 z.1 (by have := HM.out; omega) (by have := HM.out; omega) w4 (HR1.out.below hb4) (HR2.out.below hb4))
  clear hb4 HB2 HR1 HR2
  go_wp2_with fail
  refine CS.out.mono ?_
  rintro e w5 ⟨x, rfl, hx, hb5⟩
  obtain rfl : x = true := hx.mpr rfl
  have HX := Lib.hid (HQ.out w5 (bthen HB4.out hb5))
  clear hb5 hx
  go_wp2_with fail
  exact HX.out
end Go.Proofs.YtpjglenogifclaaGreatDoor
