/- The statement QuotedFound, walked: the call returns true. -/
import Derived.Test.YtnnfkdjmpbgkaaaDoorLaw06
import Derived.Test.YtnnfkdjmpbgkaaaDoorQuotedL4
namespace Go.Proofs.YtnnfkdjmpbgkaaaDoor
set_option linter.all false
open Go.RowKit
attribute [local irreducible] wpStill
set_option maxRecDepth 100000 in
set_option maxHeartbeats 4000000 in
theorem QuotedFound_walk (s : ByteArray) (hs : s.size ≤ 1048576) (at' : Int) (_ : (Lit.int .i64 at').wf = true) (w : World) (hT : Tabs w) (hM : MaxC w) :
    Calls Tryd.prog 9 #[.string s, .int .i64 at'] w fun e w' => e = .returned (.bool true) ∧ Below w.heap.size w w' := by
  have HQ : RowKit.Hid (∀ w', Below w.heap.size w w' → (fun (e : Ending) w' => e = .returned (.bool true) ∧ Below w.heap.size w w') (.returned (.bool true)) w') := Lib.hid fun w' h => ⟨rfl, h⟩
  generalize (fun (e : Ending) w' => e = .returned (.bool true) ∧ Below w.heap.size w w') = Q at *
  have C1 := Lib.hid (quoted_Scan s at' w hT hM (by omega))
  have C3 := Lib.hid (fun w' (hb : Below w.heap.size w w') => law06_fixed w' (hT.below hb) (hM.below hb))
  have CV := Lib.hid (fun (t : ByteArray) (ht : t.size ≤ 2147483647) w' (hb : Below w.heap.size w w') => quoted_Value t w' (hT.below hb) (hM.below hb) ht)
  have HE := Lib.hid (begun_err s at')
  have HF := Lib.hid (begun_found s at')
  go_enter Tryd.func9, Tryd.ntmps9
  go_wp2_with fail
  refine C1.out.mono ?_
  intro e w1 h1
  unfold scanPost at h1
  obtain ⟨rfl, hb1⟩ := h1
  have HB1 := Lib.hid hb1
  clear hb1
  generalize begun s at' = q at *
  obtain ⟨k, t, v, err⟩ := q
  simp only [] at HE HF
  by_cases herr : err = 0
  · subst herr
    obtain ⟨i, n, rfl, rfl, h2, hn, hbt, hv1, hv2, hk⟩ := HF.out k t v rfl
    clear HF HE
    have HV1 := Lib.hid hv1
    have HV2 := Lib.hid hv2
    clear hv1 hv2
    have z1 : (s.extract i n).size ≤ 2147483647 := by rw [ByteArray.size_extract]; omega
    have z2 : (s.extract i (n - 1)).size ≤ 2147483647 := by rw [ByteArray.size_extract]; omega
    have CV1 := Lib.hid (CV.out _ z1)
    have CV2 := Lib.hid (CV.out _ z2)
    clear z1 z2 CV
    have g1 : ¬ (i : Int) < 0 := by omega
    have g2 : ¬ ((s.size : Int) < n) := by omega
    have g3 : ¬ ((n : Int) < (i : Int) + 2) := by omega
    have hw1 : IntKind.i64.wrap ((i : Int) + 2) = (i : Int) + 2 := by rw [IntKind.wrap_i64]; omega
    have hw2 : IntKind.i64.wrap ((n : Int) - 1) = ((n - 1 : Nat) : Int) := by rw [IntKind.wrap_i64]; omega
    have hi0 : (0 : Int) ≤ i := by omega
    have hi1 : (i : Int) < s.size := by omega
    have hn0 : (0 : Int) ≤ ((n - 1 : Nat) : Int) := by omega
    have hn1 : ((n - 1 : Nat) : Int) < s.size := by omega
    have yi : ∀ h, ((s[i]'h).toNat : Int) = (bt s i : Int) := fun h => by rw [bt_at s i h]
    have yn : ∀ h, ((s[n - 1]'h).toNat : Int) = (bt s i : Int) := fun h => by rw [bt_at s (n - 1) h, hbt]
    clear hbt
    generalize bt s i = c at *
    go_wp2_with fail
    refine (C3.out _ HB1.out).mono ?_
    rintro e w2 ⟨rfl, hb2⟩
    have HB2 := Lib.hid (bthen HB1.out hb2)
    clear hb2
    go_wp2_with fail
    go_quiet (fail)
    have HB3 := Lib.hid (bdrewN HB2.out nq)
    clear HB2
    generalize w2.drewN nq = w3 at *
    go_wp2_with fail
    refine (CV1.out _ HB3.out).mono ?_
    intro e w4 h4
    unfold valuePost at h4
    rw [HV1.out] at h4
    obtain ⟨rfl, hb4⟩ := h4
    have HB4 := Lib.hid (bthen HB3.out hb4)
    clear hb4
    go_wp2_with fail
    refine (CV2.out _ HB4.out).mono ?_
    intro e w5 h5
    unfold valuePost at h5
    rw [HV2.out] at h5
    obtain ⟨rfl, hb5⟩ := h5
    have HB5 := Lib.hid (bthen HB4.out hb5)
    clear hb5
    rcases hk with ⟨rfl, rfl⟩ | ⟨rfl, hc⟩
    · go_wp2_with fail
      show Q (.returned (.bool _)) _
      exact HQ.out _ HB5.out
    · have hc' : ((c : Int) == 39) = false := by rw [beq_eq_false_iff_ne]; omega
      go_wp2_with fail
      show Q (.returned (.bool _)) _
      exact HQ.out _ HB5.out
  · obtain ⟨rfl, rfl⟩ := HE.out herr
    have b0 : (err == 0) = false := by rw [beq_eq_false_iff_ne]; exact herr
    clear HF HE
    go_wp2_with fail
    refine (C3.out _ HB1.out).mono ?_
    rintro e w2 ⟨rfl, hb2⟩
    have HB2 := Lib.hid (bthen HB1.out hb2)
    clear hb2
    go_wp2_with fail
    refine (C3.out _ HB2.out).mono ?_
    rintro e w3 ⟨rfl, hb3⟩
    have HB3 := Lib.hid (bthen HB2.out hb3)
    clear hb3
    go_wp2_with fail
    show Q (.returned (.bool _)) _
    exact HQ.out _ HB3.out
end Go.Proofs.YtnnfkdjmpbgkaaaDoor
