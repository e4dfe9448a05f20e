/- The statement TermChecks, walked: the call returns true. -/
import Derived.Test.YtpjglenogifclaaGreatDoorFixPM
namespace Go.Proofs.YtpjglenogifclaaGreatDoor
set_option linter.all false
attribute [local irreducible] Calls
open Go.RowKit

set_option maxRecDepth 100000 in
set_option maxHeartbeats 8000000 in
theorem TermChecks_walk (w : World) (v : Value) (l : List Prt) (hr : PartRow w v l) (hs : Small l) (hH : Held w) :
    Calls Tryz.prog 3 #[v] w (Answers w) := by
  have HQ : RowKit.Hid (∀ w', Below w.heap.size w w' → Answers w (.returned (.bool true)) w') := Lib.hid fun w' h => Answers.mk h
  generalize Answers w = Q at *
  have hl := hs.1
  have C1 := Lib.hid (law_great l hs v w hr)
  have CF := Lib.hid (fun w' (hb : Below w.heap.size w w') => fixed11 w' (hH.below hb))
  have C2 := Lib.hid (fun w' (hb : Below w.heap.size w w') => term_Well l (by omega) v w' (hr.below hb))
  have C3 := Lib.hid (fun w' (hb : Below w.heap.size w w') => ref_Well11 l (by omega) v w' (hr.below hb))
  have C4 := Lib.hid (fun w' (hb : Below w.heap.size w w') => term_Check l (by omega) hs.fine v w' (hH.below hb).T (hH.below hb).M (hr.below hb))
  have C5 := Lib.hid (fun w' (hb : Below w.heap.size w w') => ref_Check11 l (by omega) hs.fine v w' (hr.below hb))
  obtain ⟨va, vcap, rfl, hvc⟩ := hr.slice
  clear hr hs hH
  go_enter Tryz.func3, Tryz.ntmps3
  go_wp2_with fail
  refine C1.out.mono ?_
  rintro e w' ⟨g, rfl, rfl, hg⟩
  cases g with
  | true =>
    go_wp2_with fail
    refine (CF.out _ (Below.refl _ _)).mono ?_
    rintro e w4 ⟨rfl, hb4⟩
    have HX := Lib.hid (HQ.out w4 hb4)
    clear hb4
    go_wp2_with fail
    exact HX.out
  | false =>
    go_wp2_with fail
    refine (CF.out _ (Below.refl _ _)).mono ?_
    rintro e w4 ⟨rfl, hb4⟩
    have HB4 := Lib.hid hb4
    clear hb4
    go_wp2_with fail
    refine (C2.out _ HB4.out).mono ?_
    rintro e w5 ⟨rfl, hb5⟩
    have HB5 := Lib.hid (bthen HB4.out hb5)
    clear hb5
    go_wp2_with fail
    refine (C3.out _ HB5.out).mono ?_
    rintro e w6 ⟨rfl, rfl⟩
    generalize wellB l = b1 at *
    go_wp2_with fail
    refine (C4.out _ HB5.out).mono ?_
    generalize (if checkB l = true then (0 : Int) else 8) = b2 at *
    rintro e w6 ⟨rfl, hb6⟩
    have HB6 := Lib.hid (bthen HB5.out hb6)
    clear hb6
    go_wp2_with fail
    refine (C5.out _ HB6.out).mono ?_
    rintro e w7 ⟨rfl, hb7⟩
    have HB7 := Lib.hid (bthen HB6.out hb7)
    clear hb7
    have HX := Lib.hid (HQ.out _ HB7.out)
    go_wp2_with fail
    exact HX.out
end Go.Proofs.YtpjglenogifclaaGreatDoor
