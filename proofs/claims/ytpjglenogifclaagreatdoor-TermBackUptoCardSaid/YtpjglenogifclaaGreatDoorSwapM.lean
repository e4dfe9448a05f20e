/- Layer 11: the program's Swap, walked. -/
import Derived.Test.YtpjglenogifclaaGreatDoorSwapPM
import Derived.Deep.CutBlock
namespace Go.Proofs.YtpjglenogifclaaGreatDoor
set_option linter.all false
open Go.RowKit

/-- The part that is above, the end of its kids; of the root none. -/
def swUp (l : List Prt) (I : Nat) : Int := if I = 0 then -1 else upI l I I
def swStop (l : List Prt) (I : Nat) : Nat := if I = 0 then l.length else endB l (upI l I I).toNat
theorem swap_is {l b : List Prt} {I m : Nat} {ks : List Nat} (hw : wellB l = true) (hr : rowsB b = some ks) (hI : I < l.length) (h0 : I = 0 → m = 1 ∧ ks.length = 1) :
    swapZ l (I : Int) (m : Int) b = match toZ l (swStop l I) m I with
      | none => ([], 1)
      | some tq => (swOut l b I tq (swUp l I) ((ks.length : Int) - m), 0) := by
  unfold swapZ
  rw [if_pos hw, hr]
  simp only [Int.toNat_natCast]
  rw [if_pos ⟨by omega, by omega, by omega, fun h => by have := h0 (by omega); omega⟩]
  by_cases hz : I = 0
  · subst hz
    obtain ⟨rfl, hk⟩ := h0 rfl
    have hz := well_zero hw
    have e : toZ l (swStop l 0) 1 0 = some l.length := by
      unfold swStop
      rw [if_pos rfl, toZ, if_neg (by omega), hz.2, toZ]
    rw [e, if_pos (by rfl)]
    simp [swOut, swUp]
  · rw [if_neg (by omega)]
    unfold swStop swUp swOut
    rw [if_neg hz, if_neg hz]
    have hp := up_pos hw hI I (by omega)
    cases toZ l (endB l (upI l I I).toNat) m I with
    | none => rfl
    | some tq => simp only []; rw [if_pos hp]
theorem swStop_le {l : List Prt} (hw : wellB l = true) {I : Nat} (hI : I < l.length) : swStop l I ≤ l.length := by
  unfold swStop
  split
  · exact Nat.le_refl _
  · have h1 := up_pos hw hI I (by omega)
    have h2 := upI_lt l I I
    exact (endB_gt (well_rows hw) (by omega)).2
theorem kid_bound {l : List Prt} {us : List Nat} (h : rowsB l = some us) {i : Nat} (hi : i < l.length) : 0 ≤ (l[i]).2.1 ∧ (l[i]).2.1 ≤ (l.length : Int) := by
  obtain ⟨vs, hv⟩ := rowsB_drop h i
  rw [List.drop_eq_getElem_cons hi] at hv
  obtain ⟨ts, h1, h2, h3, _⟩ := rowsB_inv hv
  have := (rowsB_sum h1).2.1
  rw [List.length_drop] at this
  exact ⟨h2, by omega⟩
theorem swUp_ok {l : List Prt} (hw : wellB l = true) {I : Nat} (hI : I < l.length) (hl : l.length ≤ 10000000) : swUp l I = -1 ∨ ∃ U : Nat, swUp l I = U ∧ U < I ∧ ∀ h : U < l.length, 0 ≤ (l[U]).2.1 ∧ (l[U]).2.1 ≤ 10000000 := by
  unfold swUp
  split
  · exact Or.inl rfl
  · have h1 := up_pos hw hI I (by omega)
    have h2 := upI_lt l I I
    refine Or.inr ⟨(upI l I I).toNat, by omega, by omega, fun h => ?_⟩
    have := kid_bound (well_rows hw) h
    omega
/-- What Swap answers. -/
@[irreducible] def swapPost (q : List Prt × Int) (w0 : World) (e : Ending) (w' : World) : Prop :=
  ∃ v, e = .returned (.tuple #[v, .int .i64 q.2]) ∧ Below w0.heap.size w0 w' ∧ w'.ownsRow w0.heap.size 28 3 v q.1.length (partsV q.1)
set_option maxRecDepth 100000 in
set_option maxHeartbeats 16000000 in
theorem term_Swap (l : List Prt) (hl : l.length ≤ 10000000) (v : Value) (i n : Int) (b : List Prt) (hbl : b.length ≤ 10000000) (vb : Value) (w : World) (hr : PartRow w v l) (hrb : PartRow w vb b) :
    Calls Tryz.prog 22 #[v, .int .i64 i, .int .i64 n, vb] w (swapPost (swapZ l i n b) w) := by
  have HQ : RowKit.Hid (∀ v' m x w', swapZ l i n b = (m, x) → Below w.heap.size w w' → w'.ownsRow w.heap.size 28 3 v' m.length (partsV m) → swapPost (swapZ l i n b) w (.returned (.tuple #[v', .int .i64 x])) w') := Lib.hid fun v' m x w' h h2 h3 => by
    unfold swapPost; rw [h]; exact ⟨v', rfl, h2, h3⟩
  have HV : RowKit.Hid (swapZ l i n b = _) := Lib.hid (by unfold swapZ; rfl)
  generalize swapPost (swapZ l i n b) w = Q at *
  have HR := Lib.hid hr
  have HRB := Lib.hid hrb
  have C1 := Lib.hid (term_well l (by omega) v w hr)
  have C2 := Lib.hid (fun w' hr' => term_ends b (by omega) vb w' hr')
  obtain ⟨va, vcap, rfl, hvc⟩ := hr.slice
  obtain ⟨ba, bcap, rfl, hbc⟩ := hrb.slice
  clear hr hrb
  go_enter Tryz.func22, Tryz.ntmps22
  go_wp2_with fail
  refine C1.out.mono ?_
  intro e w1 h1
  unfold wellPost at h1
  obtain ⟨v1, rfl, hb1, hr1, a1, n1, c1, rfl⟩ := h1
  have HB1 := Lib.hid hb1
  have HE1 := Lib.hid hr1
  have HRB1 := Lib.hid (HRB.out.below hb1)
  have HR1 := Lib.hid (HR.out.below hb1)
  clear hb1 hr1 C1 HR HRB
  go_wp2_with fail
  refine (C2.out _ HRB1.out).mono ?_
  intro e w2 h2
  unfold endsPost at h2
  have hNone : ∀ x, Below w.heap.size w w2 → swapZ l i n b = ([], x) → Q (.returned (.tuple #[.slice none 0 0, .int .i64 x])) w2 := fun x hb hx => HQ.out _ [] x _ hx hb (World.ownsRow_nil _ _ _ _)
  have HNone := Lib.hid hNone
  clear hNone
  cases hw : wellB l with
  | false =>
    have HF := Lib.hid (show swapZ l i n b = ([], 8) by rw [HV.out, if_neg (by simp [hw])])
    rw [hw] at *
    cases hrow : rowsB b with
    | some ks =>
      rw [hrow] at h2
      obtain ⟨v2, rfl, hb2, hr2⟩ := h2
      obtain ⟨_, _, rfl, _, _⟩ := hr2.open'
      have HB2 := Lib.hid (bthen HB1.out hb2)
      clear hb2 hr2 hrow HV
      go_wp2_with fail
      exact HNone.out _ HB2.out HF.out
    | none =>
      rw [hrow] at h2
      obtain ⟨rfl, hb2⟩ := h2
      have HB2 := Lib.hid (bthen HB1.out hb2)
      clear hb2 hrow HV
      go_wp2_with fail
      exact HNone.out _ HB2.out HF.out
  | true =>
    have hv := HV.out
    rw [if_pos hw] at hv
    have HE := Lib.hid (HE1.out hw)
    have HW := Lib.hid hw
    clear HV HE1
    cases hrow : rowsB b with
    | none =>
      rw [hrow] at h2 hv
      obtain ⟨rfl, hb2⟩ := h2
      have HB2 := Lib.hid (bthen HB1.out hb2)
      have HF := Lib.hid hv
      clear hb2 hrow hv hw
      go_wp2_with fail
      exact HNone.out _ HB2.out HF.out
    | some ks =>
      rw [hrow] at h2 hv
      simp only [] at hv
      obtain ⟨v2, rfl, hb2, hr2⟩ := h2
      obtain ⟨_, _, rfl, _, _⟩ := hr2.open'
      have HRW := Lib.hid hrow
      have HB2 := Lib.hid (bthen HB1.out hb2)
      have HB12 := Lib.hid hb2
      have hksl := (rowsB_sum hrow).2.1
      clear hb2 hr2 hrow
      by_cases hc : 0 ≤ i ∧ i < l.length ∧ 0 ≤ n ∧ (i = 0 → n = 1 ∧ ks.length = 1)
      · rw [if_pos hc] at hv
        obtain ⟨c1', c2', c3', c4'⟩ := hc
        obtain ⟨I, rfl⟩ : ∃ I : Nat, i = I := ⟨i.toNat, by omega⟩
        obtain ⟨m, rfl⟩ : ∃ m : Nat, n = m := ⟨n.toNat, by omega⟩
        have hIl : I < l.length := by omega
        have hl0 : 0 < l.length := by omega
        have hi0 : ¬ (I : Int) < 0 := by omega
        have hil : ¬ (l.length : Int) ≤ I := by omega
        have hn0 : ¬ (m : Int) < 0 := by omega
        rw [Int.toNat_natCast, Int.toNat_natCast] at hv
        have hst := swStop_le hw hIl
        have hsi := @swap_is l b I m ks hw HRW.out hIl (fun h => by have := c4' (by omega); omega)
        rw [← toZ_min (well_rows hw) hst] at hsi
        have hbig : ∀ tq, toZ l (swStop l I) (min m (l.length + 1)) I = some tq → I ≤ tq ∧ tq ≤ l.length ∧ m ≤ l.length := fun tq h => by
          have h2 := toZ_le (well_rows hw) hst _ _ _ (by omega) h
          rw [toZ_min (well_rows hw) hst] at h
          have h3 := toZ_le (well_rows hw) hst _ _ _ (by omega) h
          omega
        have HUP := Lib.hid (swUp_ok hw hIl hl)
        have HST := Lib.hid hst
        have HUE : RowKit.Hid (0 < I → swUp l I = upI l I I ∧ swStop l I = endB l (upI l I I).toNat) := Lib.hid fun h => by unfold swUp swStop; rw [if_neg (by omega), if_neg (by omega)]; exact ⟨rfl, rfl⟩
        have HUZ : RowKit.Hid (I = 0 → swUp l I = -1 ∧ swStop l I = l.length) := Lib.hid fun h => by unfold swUp swStop; rw [if_pos h, if_pos h]; exact ⟨rfl, rfl⟩
        generalize hre : toZ l (swStop l I) (min m (l.length + 1)) I = R at *
        have HRE := Lib.hid hre
        have HN1 : RowKit.Hid (R = none → Q (.returned (.tuple #[.slice none 0 0, .int .i64 1])) w2) := Lib.hid fun h => HNone.out _ HB2.out (by rw [hsi, h])
        have HS1 : RowKit.Hid (∀ tq, R = some tq → I ≤ tq ∧ tq ≤ l.length ∧ m ≤ l.length ∧ ∀ v' w', Below w1.heap.size w1 w' → w'.ownsRow w1.heap.size 28 3 v' (swOut l b I tq (swUp l I) ((ks.length : Int) - m)).length (partsV (swOut l b I tq (swUp l I) ((ks.length : Int) - m))) → Q (.returned (.tuple #[v', .int .i64 0])) w') := Lib.hid fun tq h => by
          obtain ⟨g1, g2, g3⟩ := hbig tq h
          refine ⟨g1, g2, g3, fun v' w' gb go => HQ.out v' _ _ w' (by rw [hsi, h]) (bthen HB1.out gb) (owns_mono go HB1.out.size)⟩
        clear hsi hbig hre hv hst
        obtain ⟨eb, eoff, rfl, hen, hec, _⟩ := ints_at HE.out (Below.refl _ _) (by rw [endsL_length]; exact hl0)
        rw [endsL_length] at hen hec
        subst hen
        have HEC : RowKit.Hid (∀ W', Below w1.heap.size w1 W' → ∀ k, k < l.length → W'.cell? ⟨eb, eoff + k, none⟩ = some (.int .i64 (endB l k : Int))) := Lib.hid fun W' hb k hk => by
          obtain ⟨b', off', hbb, _, _, hcell⟩ := ints_at HE.out hb (by rw [endsL_length]; exact hl0)
          simp only [Option.some.injEq, Addr.mk.injEq, and_true] at hbb
          obtain ⟨rfl, rfl⟩ := hbb
          exact hcell k _ (endsL_get hk)
        obtain ⟨lb, loff, rfl, _, _, _, _⟩ := HR1.out.at (Below.refl _ _) hl0
        have hwl1 : IntKind.i64.wrap ((l.length : Int) + 1) = (l.length : Int) + 1 := by rw [IntKind.wrap_i64]; omega
        have HKS : RowKit.Hid (ks.length ≤ 10000000) := Lib.hid (by omega)
        by_cases hI : I = 0
        · obtain ⟨e1, e2⟩ := HUZ.out hI
          have HE1 := Lib.hid e1; have HE2 := Lib.hid e2
          have HI := Lib.hid hI
          obtain ⟨hm1, hk1⟩ := c4' (by omega)
          have hmb : ((m : Int) == 1) = true := by rw [beq_iff_eq]; omega
          have hmc : ((m : Int) != 1) = false := by rw [bne_eq_false_iff_eq]; omega
          have hk1b : ((ks.length : Int) == 1) = true := by rw [beq_iff_eq]; omega
          have hk1c : ((ks.length : Int) != 1) = false := by rw [bne_eq_false_iff_eq]; omega
          have hIb : ((I : Int) == 0) = true := by rw [beq_iff_eq]; omega
          have hI0 : ¬ (0 : Int) < (I : Int) := by omega
          have hmn : (m : Int) ≤ (l.length : Int) + 1 := by omega
          have hmm : min m (l.length + 1) = m := by omega
          rw [hmm] at HRE
          have HM1 : RowKit.Hid (m ≤ l.length + 1) := Lib.hid (by omega)
          clear e1 e2 hI hk1 hm1 c4' HUE HUZ hw hmm
          have HRE2 : RowKit.Hid (toZ l l.length m I = R) := Lib.hid (by have := HRE.out; rw [HE2.out] at this; exact this)
          rw [HE1.out] at HS1
          clear HE1 HE2 HRE HUP HST
          go_upto_block 1 with (fail)
          rename_i hK'
          exact swap_loop _ _ _ _ _ _ _ _ _ _ _ _ _ _ _ _ _ _ _ _ _ _ _ _ _ _ _ _ _ _ _ _ _ _ _ _ _ _ _ _ _ _ _ _ _ _ _ _ _ _ _ _ _ _ _ _ _ _ _ _ _ _ _ _ _ _ _ _ _ _ _ _ _ _ _ _ _ _ _ _ _ _ _ _ _ _ _ _ _ _ _ _ _ _ _ _ _ _ _ _ _ _ _ _ _ _ _ _ _ _ _ _ _ _ _ _ _ _ _ _ _ _ l hl hl0 HW b hbl I m ks.length m l.length (-1) hIl HM1.out HKS.out (Nat.le_refl _) (Lib.hid (Or.inl rfl)) lb loff vcap hvc ba bcap hbc eb eoff c1 hec w1 w2 HR1 HRB1 HB12 Q HEC R HRE2 HN1 HS1 _ hK'
        · obtain ⟨e1, e2⟩ := HUE.out (by omega)
          have hup := up_pos hw hIl I (by omega)
          have huplt := upI_lt l I I
          have CA := term_above l (by omega) hw (.slice (some ⟨eb, eoff, none⟩) l.length c1) I (by omega) hIl w2 (HE.out.below HB12.out)
          obtain ⟨U, hU⟩ : ∃ U : Nat, upI l I I = U := ⟨(upI l I I).toNat, by omega⟩
          rw [hU] at CA huplt e1 e2
          rw [Int.toNat_natCast] at e2
          have hUl : U < l.length := by omega
          have e0 := HEC.out _ HB12.out U hUl
          rw [← e2] at e0
          have CA := Lib.hid CA
          rw [e1] at HS1 HUP
          clear e1 e2 hup hU HUE HUZ c4'
          have hIb : ((I : Int) == 0) = false := by rw [beq_eq_false_iff_ne]; omega
          have hI0 : (0 : Int) < (I : Int) := by omega
          have hU0 : (0 : Int) ≤ (U : Int) := by omega
          have hUli : (U : Int) < l.length := by omega
          have hUlc : (U : Int) < c1 := by omega
          have hst := HST.out
          generalize swStop l I = stop at *
          by_cases hmm : m ≤ l.length + 1
          · have hmn : (m : Int) ≤ (l.length : Int) + 1 := by omega
            have e : min m (l.length + 1) = m := by omega
            rw [e] at HRE
            clear e hw hI
            go_wp2_with fail
            refine CA.out.mono ?_
            rintro e w3 ⟨rfl, rfl⟩
            go_upto_block 1 with (fail)
            rename_i hK'
            exact swap_loop _ _ _ _ _ _ _ _ _ _ _ _ _ _ _ _ _ _ _ _ _ _ _ _ _ _ _ _ _ _ _ _ _ _ _ _ _ _ _ _ _ _ _ _ _ _ _ _ _ _ _ _ _ _ _ _ _ _ _ _ _ _ _ _ _ _ _ _ _ _ _ _ _ _ _ _ _ _ _ _ _ _ _ _ _ _ _ _ _ _ _ _ _ _ _ _ _ _ _ _ _ _ _ _ _ _ _ _ _ _ _ _ _ _ _ _ _ _ _ _ _ _ l hl hl0 HW b hbl I m ks.length m stop (U : Int) hIl hmm HKS.out HST.out HUP lb loff vcap hvc ba bcap hbc eb eoff c1 hec w1 w2 HR1 HRB1 HB12 Q HEC R HRE HN1 HS1 _ hK'
          · have hmn : (l.length : Int) + 1 < (m : Int) := by omega
            have hmn2 : ¬ (m : Int) ≤ (l.length : Int) + 1 := by omega
            have e : min m (l.length + 1) = l.length + 1 := by omega
            rw [e] at HRE
            clear e hw hI
            go_wp2_with fail
            refine CA.out.mono ?_
            rintro e w3 ⟨rfl, rfl⟩
            go_upto_block 1 with (fail)
            rename_i hK'
            exact swap_loop _ _ _ _ _ _ _ _ _ _ _ _ _ _ _ _ _ _ _ _ _ _ _ _ _ _ _ _ _ _ _ _ _ _ _ _ _ _ _ _ _ _ _ _ _ _ _ _ _ _ _ _ _ _ _ _ _ _ _ _ _ _ _ _ _ _ _ _ _ _ _ _ _ _ _ _ _ _ _ _ _ _ _ _ _ _ _ _ _ _ _ _ _ _ _ _ _ _ _ _ _ _ _ _ _ _ _ _ _ _ _ _ _ _ _ _ _ _ _ _ _ _ l hl hl0 HW b hbl I m ks.length (l.length + 1) stop (U : Int) hIl (Nat.le_refl _) HKS.out HST.out HUP lb loff vcap hvc ba bcap hbc eb eoff c1 hec w1 w2 HR1 HRB1 HB12 Q HEC R HRE HN1 HS1 _ hK'
      · rw [if_neg hc] at hv
        have HF := Lib.hid hv
        clear hv hw
        by_cases h1 : i < 0
        · clear hc
          go_wp2_with fail
          exact HNone.out _ HB2.out HF.out
        · by_cases h2 : (l.length : Int) ≤ i
          · clear hc
            go_wp2_with fail
            exact HNone.out _ HB2.out HF.out
          · by_cases h3 : n < 0
            · clear hc
              go_wp2_with fail
              exact HNone.out _ HB2.out HF.out
            · have hi0 : i = 0 := by
                rcases Classical.em (i = 0) with h | h
                · exact h
                · exact absurd ⟨by omega, by omega, by omega, fun g => absurd g h⟩ hc
              subst hi0
              by_cases hn : n = 1
              · have hk : ks.length ≠ 1 := fun h => hc ⟨by omega, by omega, by omega, fun _ => ⟨hn, h⟩⟩
                subst hn
                have hkb : ((ks.length : Int) == 1) = false := by rw [beq_eq_false_iff_ne]; omega
                have hkn : ((ks.length : Int) != 1) = true := by rw [bne_iff_ne]; omega
                clear hc hk
                go_wp2_with fail
                all_goals
                  show Q (.returned (.tuple #[.slice none 0 0, .int .i64 1])) w2
                  exact HNone.out _ HB2.out HF.out
              · have hnb : (n == 1) = false := by rw [beq_eq_false_iff_ne]; exact hn
                have hnn : (n != 1) = true := by rw [bne_iff_ne]; exact hn
                clear hc hn
                go_wp2_with fail
                all_goals
                  show Q (.returned (.tuple #[.slice none 0 0, .int .i64 1])) w2
                  exact HNone.out _ HB2.out HF.out
end Go.Proofs.YtpjglenogifclaaGreatDoor
