/- The statement TermSwaps, walked: the call returns true. -/
import Derived.Test.YtpjglenogifclaaGreatDoorFixPM
namespace Go.Proofs.YtpjglenogifclaaGreatDoor
set_option linter.all false
attribute [local irreducible] Calls
open Go.RowKit

theorem swapZ_len (l b : List Prt) (i n : Int) : (swapZ l i n b).1.length ≤ l.length + b.length + l.length := by
  unfold swapZ
  split
  · split
    · exact Nat.zero_le _
    · split
      · split
        · show b.length ≤ _; omega
        · split
          · exact Nat.zero_le _
          · simp only [List.length_append, addK_length, List.length_take, List.length_drop]; omega
      · exact Nat.zero_le _
  · exact Nat.zero_le _
set_option maxRecDepth 100000 in
set_option maxHeartbeats 8000000 in
theorem TermSwaps_walk (w : World) (v : Value) (l : List Prt) (hr : PartRow w v l) (hs : Small l) (i n : Int) (vb : Value) (b : List Prt) (hrb : PartRow w vb b) (hsb : Small b) (hH : Held w) :
    Calls Tryz.prog 7 #[v, .agg #[.int .i64 i, .int .i64 n], vb] w (Answers w) := by
  have HQ : RowKit.Hid (∀ w', Below w.heap.size w w' → Answers w (.returned (.bool true)) w') := Lib.hid fun w' h => Answers.mk h
  generalize Answers w = Q at *
  have hl := hs.1
  have hlb := hsb.1
  have CF := Lib.hid (fun w' (hb : Below w.heap.size w w') => fixed11 w' (hH.below hb))
  have C1 := Lib.hid (fun w' (hb : Below w.heap.size w w') => term_Swap l (by omega) v i n b (by omega) vb w' (hr.below hb) (hrb.below hb))
  have C2 := Lib.hid (fun w' (hb : Below w.heap.size w w') => ref_Swap11 l (by omega) v i n b (by omega) vb w' (hr.below hb) (hrb.below hb))
  have hm : (swapZ l i n b).1.length ≤ 1000000000 := by have := swapZ_len l b i n; omega
  obtain ⟨va, vcap, rfl, hvc⟩ := hr.slice
  obtain ⟨ba, bcap, rfl, hbc⟩ := hrb.slice
  have HA : RowKit.Hid (Below w.heap.size w (w.alloc (.cells #[.int .i64 i, .int .i64 n] 37))) := Lib.hid ((Below.refl _ _).alloc (Nat.le_refl _) _)
  clear hr hs hH hrb hsb
  by_cases hbig : 300 < l.length ∨ 300 < b.length
  · go_enter Tryz.func7, Tryz.ntmps7
    have HX := Lib.hid fun w4 hb4 => HQ.out w4 (bthen HA.out hb4)
    by_cases h1 : 300 < l.length
    · have h1' : (300 : Int) < l.length := by omega
      go_wp2_with fail
      refine (CF.out _ HA.out).mono ?_
      rintro e w4 ⟨rfl, hb4⟩
      have HX := Lib.hid (HX.out w4 hb4)
      clear hb4
      go_wp2_with fail
      exact HX.out
    · have h1' : ¬ (300 : Int) < l.length := by omega
      have h2' : (300 : Int) < b.length := by omega
      go_wp2_with fail
      refine (CF.out _ HA.out).mono ?_
      rintro e w4 ⟨rfl, hb4⟩
      have HX := Lib.hid (HX.out w4 hb4)
      clear hb4
      go_wp2_with fail
      exact HX.out
  · have h1' : ¬ (300 : Int) < l.length := by omega
    have h2' : ¬ (300 : Int) < b.length := by omega
    go_enter Tryz.func7, Tryz.ntmps7
    go_wp2_with fail
    refine (C1.out _ HA.out).mono ?_
    intro e w1 h
    unfold swapPost at h
    generalize swapZ l i n b = z at *
    obtain ⟨v1, rfl, hb1, ho1⟩ := h
    have hb1' := bthen HA.out hb1
    have a0 : w1.cell? ⟨w.heap.size, 0, none⟩ = some (.int .i64 i) := by rw [hb1.cell (p := ⟨w.heap.size, 0, none⟩) (by simp)]; exact World.cell?_alloc_at _ _ _ _ rfl
    have a1 : w1.cell? ⟨w.heap.size, 1, none⟩ = some (.int .i64 n) := by rw [hb1.cell (p := ⟨w.heap.size, 1, none⟩) (by simp)]; exact World.cell?_alloc_at _ _ _ _ rfl
    have HB1 := Lib.hid hb1'
    have HR1 := Lib.hid (show PartRow w1 v1 z.1 from Row.of_owns ho1)
    clear hb1 ho1 C1 HA hb1'
    go_wp2_with fail
    refine (C2.out _ HB1.out).mono ?_
    intro e w2 h
    unfold swapPost at h
    obtain ⟨v2, rfl, hb2, ho2⟩ := h
    have HR2 := Lib.hid (show PartRow w2 v2 z.1 from Row.of_owns ho2)
    have HR1 := Lib.hid (HR1.out.below hb2)
    have HB2 := Lib.hid (bthen HB1.out hb2)
    clear hb2 ho2 C2 HB1 a0 a1
    go_wp2_with fail
    refine (CF.out _ HB2.out).mono ?_
    rintro e w4 ⟨rfl, hb4⟩
    have HB4 := Lib.hid (bthen HB2.out hb4)
    have CS := Lib.hid (ref_Same11 v1 v2 z.1 z.1 hm hm w4 (HR1.out.below hb4) (HR2.out.below hb4))
    clear hb4 HB2 HR1 HR2
    go_wp2_with fail
    refine CS.out.mono ?_
    rintro e w5 ⟨x, rfl, hx, hb5⟩
    obtain rfl : x = true := hx.mpr rfl
    have HX := Lib.hid (HQ.out w5 (bthen HB4.out hb5))
    clear hb5 hx
    go_wp2_with fail
    exact HX.out
end Go.Proofs.YtpjglenogifclaaGreatDoor
