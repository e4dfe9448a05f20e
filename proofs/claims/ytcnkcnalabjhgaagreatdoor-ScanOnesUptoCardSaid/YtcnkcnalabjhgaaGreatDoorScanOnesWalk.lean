/- The statement ScanOnes, walked: the call returns true. -/
import Derived.Test.YtcnkcnalabjhgaaGreatDoorOneW
import Derived.Test.YtcnkcnalabjhgaaGreatDoorLaw07
namespace Go.Proofs.YtcnkcnalabjhgaaGreatDoor
set_option linter.all false
open Go.RowKit

set_option maxRecDepth 100000 in
set_option maxHeartbeats 8000000 in
theorem ScanOnes_walk (s : ByteArray) (hs : s.size ≤ 1048576) (at' : Int) (_ : (Lit.int .i64 at').wf = true) (w : World) (hT : Tabs w) (hM : MaxC w) :
    Calls Tryz.prog 3 #[.string s, .int .i64 at'] w fun e w' => e = .returned (.bool true) ∧ Below w.heap.size w w' := by
  have HQ : RowKit.Hid (∀ w', Below w.heap.size w w' → (fun (e : Ending) w' => e = .returned (.bool true) ∧ Below w.heap.size w w') (.returned (.bool true)) w') := Lib.hid fun w' h => ⟨rfl, h⟩
  generalize (fun (e : Ending) w' => e = .returned (.bool true) ∧ Below w.heap.size w w') = Q at *
  have C1 := Lib.hid (scan_One s at' (by omega) w hT hM)
  have C2 := Lib.hid (fun w' => ref_One07 s at' (by omega) w')
  have CF := Lib.hid (fun w' (hb : Below w.heap.size w w') => law07_fixed w' (hT.below hb) (hM.below hb))
  by_cases hbig : 3000 < s.size
  · have hbig' : (3000 : Int) < s.size := by omega
    go_enter Tryz.func3, Tryz.ntmps3
    go_wp2_with fail
    refine (CF.out _ (Below.refl _ _)).mono ?_
    rintro e w1 ⟨rfl, hb1⟩
    go_wp2_with fail
    show Q (.returned (.bool true)) _
    exact HQ.out _ hb1
  · have hbig' : ¬ (3000 : Int) < s.size := by omega
    go_enter Tryz.func3, Tryz.ntmps3
    go_wp2_with fail
    refine C1.out.mono ?_
    intro e w1 h1
    unfold nextPost at h1
    generalize oneZ s at' = q at *
    obtain ⟨q1, q2, q3, q4⟩ := q
    simp only [] at h1
    obtain ⟨rfl, hb1⟩ := h1
    have HB1 := Lib.hid hb1
    have HT1 := Lib.hid (TK.alloc_new w1 q1 q2 q3)
    have HA1 : RowKit.Hid (Below w1.heap.size w1 (w1.alloc (.cells #[.int .u8 q1, .int .i64 q2, .int .i64 q3] 24))) := Lib.hid ((Below.refl _ _).alloc (Nat.le_refl _) _)
    clear hb1 C1
    go_wp2_with fail
    refine (C2.out _).mono ?_
    intro e w2 h2
    unfold nextPost at h2
    simp only [] at h2
    obtain ⟨rfl, hb2⟩ := h2
    have HB2 := Lib.hid (bthen HB1.out (bthen HA1.out hb2))
    have HT2 := Lib.hid (HT1.out.keep hb2)
    have HT3 := Lib.hid (TK.alloc_new w2 q1 q2 q3)
    have HA2 : RowKit.Hid (Below w2.heap.size w2 (w2.alloc (.cells #[.int .u8 q1, .int .i64 q2, .int .i64 q3] 24))) := Lib.hid ((Below.refl _ _).alloc (Nat.le_refl _) _)
    have HT4 := Lib.hid (HT2.out.keep HA2.out)
    clear hb2 C2 HT1 HT2
    go_wp2_with fail
    refine (CF.out _ (bthen HB2.out HA2.out)).mono ?_
    rintro e w3 ⟨rfl, hb3⟩
    have HB3 := Lib.hid (bthen HB2.out (bthen HA2.out hb3))
    have HT5 := Lib.hid (HT4.out.keep hb3)
    have HT6 := Lib.hid (HT3.out.keep hb3)
    clear hb3 HT3 HT4
    have a0 := HT5.out.c0; have a1 := HT5.out.c1; have a2 := HT5.out.c2
    have b0 := HT6.out.c0; have b1 := HT6.out.c1; have b2 := HT6.out.c2
    go_wp2_with fail
    show Q (.returned (.bool true)) _
    exact HQ.out _ HB3.out
end Go.Proofs.YtcnkcnalabjhgaaGreatDoor
