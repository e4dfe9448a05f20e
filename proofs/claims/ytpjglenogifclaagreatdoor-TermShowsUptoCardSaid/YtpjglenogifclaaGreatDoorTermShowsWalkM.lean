/- The statement TermShows, walked: the call returns true. -/
import Derived.Test.YtpjglenogifclaaGreatDoorFixPM
import Derived.Test.YtpjglenogifclaaGreatDoorTreePM
namespace Go.Proofs.YtpjglenogifclaaGreatDoor
set_option linter.all false
attribute [local irreducible] Calls
open Go.RowKit

set_option maxRecDepth 100000 in
set_option maxHeartbeats 8000000 in
theorem TermShows_walk (w : World) (v : Value) (l : List Prt) (hr : PartRow w v l) (hs : Small l) (hH : Held w) :
    Calls Tryz.prog 5 #[v] w (Answers w) := by
  have HQ : RowKit.Hid (∀ w', Below w.heap.size w w' → Answers w (.returned (.bool true)) w') := Lib.hid fun w' h => Answers.mk h
  generalize Answers w = Q at *
  have hl := hs.1
  · have C1 := Lib.hid (law_great l hs v w hr)
    have CF := Lib.hid (fun w' (hb : Below w.heap.size w w') => fixed11 w' (hH.below hb))
    have C2 := Lib.hid (term_Show l (by omega) hs.fine v w hH.P hr)
    have C3 := Lib.hid (fun w' (hb : Below w.heap.size w w') (h : l.length ≤ 1000000) => ref_Show11 l h hs.fine v w' (hr.below hb))
    obtain ⟨va, vcap, rfl, hvc⟩ := hr.slice
    clear hr hs hH
    go_enter Tryz.func5, Tryz.ntmps5
    go_wp2_with fail
    refine C1.out.mono ?_
    rintro e w' ⟨g, rfl, rfl, hg⟩
    cases g with
    | true =>
      go_wp2_with fail
      refine (CF.out _ (Below.refl _ _)).mono ?_
      rintro e w4 ⟨rfl, hb4⟩
      have HX := Lib.hid (HQ.out w4 hb4)
      clear hb4
      go_wp2_with fail
      exact HX.out
    | false =>
      go_wp2_with fail
      refine C2.out.mono ?_
      intro e w5 h5
      unfold showPost at h5
      obtain ⟨rfl, hb5⟩ := h5
      have HB5 := Lib.hid hb5
      clear hb5
      go_wp2_with fail
      refine (C3.out _ HB5.out (by have := hg trivial; omega)).mono ?_
      intro e w6 h6
      unfold showPost at h6
      obtain ⟨rfl, hb6⟩ := h6
      have HB6 := Lib.hid (bthen HB5.out hb6)
      clear hb6 C2 C3
      generalize showZ l = z at *
      go_wp2_with fail
      refine (CF.out _ HB6.out).mono ?_
      rintro e w4 ⟨rfl, hb4⟩
      have HX := Lib.hid (HQ.out w4 (bthen HB6.out hb4))
      clear hb4
      go_wp2_with fail
      exact HX.out
end Go.Proofs.YtpjglenogifclaaGreatDoor
