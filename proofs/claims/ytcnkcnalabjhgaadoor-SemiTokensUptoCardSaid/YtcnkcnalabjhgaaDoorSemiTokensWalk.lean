/- The statement SemiTokens, walked: the call returns true. -/
import Derived.Test.YtcnkcnalabjhgaaDoorInside
namespace Go.Proofs.YtcnkcnalabjhgaaDoor
set_option linter.all false
open Go.RowKit

theorem drop_cons_at {l : List Tok} {i : Nat} {t : Tok} {r : List Tok} (h : l.drop i = t :: r) : ∃ hi : i < l.length, l[i] = t ∧ l.drop (i + 1) = r := by
  have hi : i < l.length := by
    rcases Nat.lt_or_ge i l.length with h' | h'
    · exact h'
    · rw [List.drop_of_length_le h'] at h; cases h
  rw [List.drop_eq_getElem_cons hi] at h
  simp only [List.cons.injEq] at h
  exact ⟨hi, h.1, h.2⟩
/-- What holds at the loop's head. -/
def tokRel (s : ByteArray) (w : World) (L M : List Tok) (k i : Value) (wr : World) : Prop :=
  ∃ ki ii : Nat, k = .int .i64 ki ∧ i = .int .i64 ii ∧ ii ≤ L.length ∧ ki ≤ M.length ∧ M.drop ki = semiRec s none (L.drop ii) ∧ Below w.heap.size w wr
theorem TokRow.at {w w' : World} {a : Option Addr} {n cap : Nat} {l : List Tok} (h : TokRow w (.slice a n cap) l) (hb : Below w.heap.size w w') {i : Nat} (hi : i < l.length) :
    ∃ b, a = some ⟨b, 0, none⟩ ∧ n = l.length ∧ l.length ≤ cap ∧ w'.cell? ⟨b, i * 3, none⟩ = some (.int .u8 l[i].1) ∧ w'.cell? ⟨b, i * 3 + 1, none⟩ = some (.int .i64 (l[i].2.1 : Nat)) ∧ w'.cell? ⟨b, i * 3 + 2, none⟩ = some (.int .i64 (l[i].2.2 : Nat)) := by
  obtain ⟨a', cap', hv, hc, hcells⟩ := h.below hb
  simp only [Value.slice.injEq] at hv
  obtain ⟨rfl, rfl, rfl⟩ := hv
  obtain ⟨b, hb', _, hcell⟩ := hcells (by omega)
  have := hcell i hi
  exact ⟨b, hb', rfl, hc, this.1, this.2.1, this.2.2⟩
set_option maxRecDepth 100000 in
set_option maxHeartbeats 8000000 in
theorem SemiTokens_walk (s : ByteArray) (hs : s.size ≤ 1048576) (w : World) (hT : Tabs w) (hM : MaxC w) :
    Calls Tryd.prog 10 #[.string s] w fun e w' => e = .returned (.bool true) ∧ Below w.heap.size w w' := by
  have HQ : RowKit.Hid (∀ w', Below w.heap.size w w' → (fun (e : Ending) w' => e = .returned (.bool true) ∧ Below w.heap.size w w') (.returned (.bool true)) w') := Lib.hid fun w' h => ⟨rfl, h⟩
  generalize (fun (e : Ending) w' => e = .returned (.bool true) ∧ Below w.heap.size w w') = Q at *
  have C1 := Lib.hid (scan_All s (by omega) w hT hM)
  have C2 := Lib.hid (fun w' (hb : Below w.heap.size w w') => semi_Of s (by omega) w' (hT.below hb) (hM.below hb))
  have C3 := Lib.hid (fun w' (hb : Below w.heap.size w w') => law08_fixed w' (hT.below hb) (hM.below hb))
  have CI := Lib.hid (fun v l ho hl w hr => law08_inside s v l ho (by omega) hl w hr)
  have HORD := Lib.hid (semiAll_ord s)
  have HREC := Lib.hid (semiAll_rec s)
  have HBAD : RowKit.Hid (¬ ((scanAll s).2.1 = 0 ∧ (scanAll s).2.2 = 0) → semiAll s = ([], (scanAll s).2.1, (scanAll s).2.2)) := Lib.hid fun h => by unfold semiAll; rw [if_neg h]
  have HER := Lib.hid (scanAll_err s)
  have HIN := Lib.hid (scanAll_in s)
  have HK8 := Lib.hid (scanAll_kind s)
  have HLN := scanAll_len s
  have hs2 : s.size ≤ 2147483647 := by omega
  clear hs
  go_enter Tryd.func10, Tryd.ntmps10
  go_wp2_with fail
  refine C1.out.mono ?_
  intro e w1 h1
  unfold allPost at h1
  generalize scanAll s = q1 at *
  obtain ⟨L, er, ea⟩ := q1
  simp only [] at *
  obtain ⟨v1, rfl, hb1, ho1⟩ := h1
  have HB1 := Lib.hid hb1
  have HR1 := Lib.hid (TokRow.of_owns ho1)
  obtain ⟨a1, cap1, rfl, hcap1, _⟩ := HR1.out
  have HF1 : RowKit.Hid (FK (w1.alloc (.cells #[.int .i64 er, .int .i64 ea] 28)) w1.heap.size er ea) := Lib.hid (by unfold FK; exact heap_alloc_new _ _)
  have HA1 : RowKit.Hid (Below w1.heap.size w1 (w1.alloc (.cells #[.int .i64 er, .int .i64 ea] 28))) := Lib.hid ((Below.refl _ _).alloc (Nat.le_refl _) _)
  clear hb1 ho1 C1
  go_wp2_with fail
  refine (C2.out _ (HB1.out.alloc HB1.out.size _)).mono ?_
  intro e w2 h2
  unfold allPost at h2
  by_cases her : er = 0
  · obtain rfl := HER.out her
    subst her
    have hrec := HREC.out ⟨rfl, rfl⟩
    have hord := HORD.out
    rw [hrec] at h2 hord
    simp only [] at h2 hord
    have HMD : RowKit.Hid (semiRec s none L = semiRec s none (L.drop 0)) := Lib.hid (by rw [List.drop_zero])
    have hml : (semiRec s none L).length ≤ 65537 := by
      have := semiAll_len s
      rw [hrec] at this
      exact this
    have HM0 : RowKit.Hid ((semiRec s none L).drop 0 = semiRec s none (L.drop 0)) := Lib.hid (by rw [List.drop_zero, List.drop_zero])
    generalize semiRec s none L = M at *
    obtain ⟨v2, rfl, hb2, ho2⟩ := h2
    have HR2 := Lib.hid (TokRow.of_owns ho2)
    obtain ⟨a2, cap2, rfl, hcap2, _⟩ := HR2.out
    have HA2 := Lib.hid (bthen HA1.out hb2)
    have HF2 := Lib.hid ((HF1.out.keep hb2).alloc (.cells #[.int .i64 0, .int .i64 0] 28))
    have HG2 : RowKit.Hid (FK (w2.alloc (.cells #[.int .i64 0, .int .i64 0] 28)) w2.heap.size 0 0) := Lib.hid (by unfold FK; exact heap_alloc_new _ _)
    have HW2 : RowKit.Hid (Below w2.heap.size w2 (w2.alloc (.cells #[.int .i64 0, .int .i64 0] 28))) := Lib.hid ((Below.refl _ _).alloc (Nat.le_refl _) _)
    clear hb2 ho2 HA1 HF1 hrec HBAD HREC HORD
    go_wp2_with fail
    refine (C3.out _ (bthen HB1.out (bthen HA2.out HW2.out))).mono ?_
    rintro e w3 ⟨rfl, hb3⟩
    have HW3 := Lib.hid (bthen HW2.out hb3)
    have HF3 := Lib.hid (HF2.out.keep hb3)
    have HG3 := Lib.hid (HG2.out.keep hb3)
    clear hb3 HW2 HF2 HG2
    have f0 := HF3.out.c0; have f1 := HF3.out.c1
    have g0 := HG3.out.c0; have g1 := HG3.out.c1
    go_wp2_with fail
    refine (CI.out _ M hord (by omega) _ (HR2.out.below HW3.out)).mono ?_
    rintro e w4 ⟨rfl, hb4⟩
    have HW4 := Lib.hid (bthen HW3.out hb4)
    have HW5 := Lib.hid (bthen HA2.out HW4.out)
    have HR3 := Lib.hid (HR1.out.below HW5.out)
    have HR4 := Lib.hid (HR2.out.below HW4.out)
    have HB4 := Lib.hid (bthen HB1.out HW5.out)
    clear hb4 f0 f1 g0 g1 HF3 HG3 HW3
    go_wp2_with fail
    go_loopw [7, 8] (fun k i wr => tokRel s w4 L M k i wr) (fun _ i _ => L.length - (intOf i).toNat)
    case atStart => exact ⟨0, 0, rfl, rfl, Nat.zero_le _, Nat.zero_le _, HM0.out, Below.refl _ _⟩
    case round =>
      obtain ⟨k, i, rfl, rfl, hi, hk, hmd, hb⟩ := hrel
      have HB := Lib.hid hb
      have HMDr := Lib.hid hmd
      clear hb hmd
      by_cases hlt : i < L.length
      · have hlt' : (i : Int) < L.length := by omega
        obtain ⟨b1, rfl, _, _, d0, d1, d2⟩ := HR3.out.at HB.out hlt
        have hin := HIN.out L[i] (List.getElem_mem hlt)
        have hkk := HK8.out L[i] (List.getElem_mem hlt)
        have hdr : L.drop i = L[i] :: L.drop (i + 1) := List.drop_eq_getElem_cons hlt
        have HTL : RowKit.Hid (∀ t ∈ L.drop (i + 1), t.2.1 < t.2.2) := Lib.hid fun t ht => (HIN.out t (List.mem_of_mem_drop ht)).1
        generalize L[i] = t at *
        obtain ⟨kk, ff, tt⟩ := t
        simp only [] at hin hkk d0 d1 d2
        rw [hdr] at HMDr
        have hi0 : (0 : Int) ≤ i := by omega
        have hic : (i : Int) < cap1 := by omega
        have HK : RowKit.Hid (k ≤ M.length) := Lib.hid hk
        have HI : RowKit.Hid (i + 1 ≤ L.length) := Lib.hid hlt
        have HLi : RowKit.Hid (L.length - (i + 1) < L.length - i) := Lib.hid (by omega)
        have hwk : IntKind.i64.wrap ((i : Int) + 1) = ((i + 1 : Nat) : Int) := by rw [IntKind.wrap_i64]; omega
        generalize hr : L.drop (i + 1) = r at *
        have HDR := Lib.hid hr
        clear hr hdr
        have hcs : kk = 10 ∨ kk = 11 ∨ kk = 12 ∨ (kk ≠ 10 ∧ kk ≠ 11 ∧ kk ≠ 12) := by omega
        rcases hcs with rfl | rfl | rfl | ⟨n1, n2, n3⟩
        rotate_left 3
        · have m : ∀ c : Int, kk ≠ c → (kk == c) = false := fun c h => by rw [beq_eq_false_iff_ne]; exact h
          have m1 := m 10 n1; have m2 := m 11 n2; have m3 := m 12 n3
          have HSI : RowKit.Hid (silentK kk = false) := Lib.hid (by unfold silentK; simp [n1, n2, n3])
          clear m n1 n2 n3
          have HM := HMDr.out
          rw [semiRec, if_neg (by simp [HSI.out])] at HM
          obtain ⟨hkl, hMk, hMr⟩ := drop_cons_at HM
          clear HM HMDr
          obtain ⟨b2, rfl, _, hcp2, e0, e1, e2⟩ := HR4.out.at HB.out hkl
          rw [hMk] at e0 e1 e2
          simp only [] at e0 e1 e2
          have hkM : ¬ ((k : Int) == (M.length : Int)) = true := by simp; omega
          have hkM' : ((k : Int) == (M.length : Int)) = false := by rw [beq_eq_false_iff_ne]; omega
          have hk0 : (0 : Int) ≤ k := by omega
          have hkc : (k : Int) < cap2 := by omega
          have hkd : decide (k = M.length) = false := decide_eq_false (by omega)
          go_wp2_with fail
          go_quiet (fail)
          go_wp2_with fail
          have HB5 := Lib.hid (bdrewN HB.out nq)
          have f0 : (wr.drewN nq).cell? { block := b1, off := i * 3 } = some (Value.int IntKind.u8 kk) := d0
          have f1 : (wr.drewN nq).cell? { block := b1, off := i * 3 + 1 } = some (Value.int IntKind.i64 (ff : Int)) := d1
          have f2 : (wr.drewN nq).cell? { block := b1, off := i * 3 + 2 } = some (Value.int IntKind.i64 (tt : Int)) := d2
          clear d0 d1 d2 e0 e1 e2 HB
          generalize wr.drewN nq = wq at *
          have hcases : (endsK kk (s.extract ff tt) = true ∧ M.drop (k + 1) = (9, tt, tt) :: semiRec s none r) ∨ M.drop (k + 1) = semiRec s none r := by
            cases hen : endsK kk (s.extract ff tt) with
            | false => rw [if_neg (by simp [hen])] at hMr; exact Or.inr hMr
            | true =>
              rw [if_pos hen] at hMr
              rcases semiRec_some s tt r with h | h
              · rw [h] at hMr; exact Or.inl ⟨rfl, hMr⟩
              · rw [h] at hMr; exact Or.inr hMr
          clear hMr
          rcases hcases with ⟨hen, hA⟩ | hB
          · obtain ⟨hk1, hMk1, hMr1⟩ := drop_cons_at hA
            have HMR1 := Lib.hid hMr1
            have HEN := Lib.hid hen
            clear hA hMr1 hen
            obtain ⟨b2', hbb, _, _, g0, g1, g2⟩ := HR4.out.at HB5.out hk1
            simp only [Option.some.injEq, Addr.mk.injEq, and_true] at hbb
            subst hbb
            rw [hMk1] at g0 g1 g2
            simp only [] at g0 g1 g2
            have a1 : (k : Int) + 1 < M.length := by omega
            have a2 : decide ((k : Int) + 1 < (M.length : Int)) = true := decide_eq_true a1
            have a3 : decide (k + 1 < M.length) = true := decide_eq_true hk1
            have a4 : (0 : Int) ≤ (k : Int) + 1 := by omega
            have a5 : (k : Int) + 1 < cap2 := by omega
            have a6 : ((k : Int) + 1).toNat = k + 1 := by omega
            go_quiet (fail)
            go_wp2_with fail
            have HB6 := Lib.hid (bdrewN HB5.out nq)
            have f0 : (wq.drewN nq).cell? { block := b1, off := i * 3 } = some (Value.int IntKind.u8 kk) := f0
            have f1 : (wq.drewN nq).cell? { block := b1, off := i * 3 + 1 } = some (Value.int IntKind.i64 (ff : Int)) := f1
            have f2 : (wq.drewN nq).cell? { block := b1, off := i * 3 + 2 } = some (Value.int IntKind.i64 (tt : Int)) := f2
            have g0 : (wq.drewN nq).cell? { block := b2, off := (k + 1) * 3 } = some (Value.int IntKind.u8 9) := g0
            have g1 : (wq.drewN nq).cell? { block := b2, off := (k + 1) * 3 + 1 } = some (Value.int IntKind.i64 (tt : Int)) := g1
            have g2 : (wq.drewN nq).cell? { block := b2, off := (k + 1) * 3 + 2 } = some (Value.int IntKind.i64 (tt : Int)) := g2
            clear HB5
            generalize wq.drewN nq = wz at *
            have CE' : ∀ n, Calls Tryd.prog 17 #[.int .u8 kk, .string (s.extract ff tt)] (wz.drewN n) fun e w' => e = .returned (.bool true) ∧ ∃ m, w' = wz.drewN m := fun n => Calls.quiet_of_same ((semi_Ends kk hkk (s.extract ff tt) (wz.drewN n)).mono fun e w' h => ⟨by rw [h.1, HEN.out], h.2.symm⟩)
            have CE := Lib.hid CE'
            clear CE'
            have q1 : (ff : Int) ≤ tt := by omega
            have q2 : (tt : Int) ≤ s.size := by omega
            have q3 : (0 : Int) ≤ ff := by omega
            have q4 : ff ≤ tt := by omega
            have q5 : tt ≤ s.size := hin.2
            go_quiet (exact CE.out _)
            go_wp2_with fail
            refine ⟨⟨k + 1 + 1, i + 1, congrArg (Value.int .i64) (by omega), congrArg (Value.int .i64) (by omega), HI.out, by omega, by rw [HMR1.out, HDR.out], bdrewN HB6.out nq⟩, ?_⟩
            have := HLi.out
            simp only [intOf]
            omega
          · have HBD := Lib.hid hB
            by_cases hk1 : k + 1 < M.length
            · obtain ⟨b2', hbb, _, _, g0, g1, g2⟩ := HR4.out.at HB5.out hk1
              simp only [Option.some.injEq, Addr.mk.injEq, and_true] at hbb
              subst hbb
              have hlt3 : (M[k + 1]).2.1 < (M[k + 1]).2.2 := by
                have := semiRec_head s r HTL.out M[k + 1]
                rw [← hB, List.drop_eq_getElem_cons hk1] at this
                exact this rfl
              clear hB
              generalize M[k + 1] = t3 at *
              obtain ⟨k3, f3, t3⟩ := t3
              simp only [] at g0 g1 g2 hlt3
              have a1 : (k : Int) + 1 < M.length := by omega
              have a2 : decide ((k : Int) + 1 < (M.length : Int)) = true := decide_eq_true a1
              have a3 : decide (k + 1 < M.length) = true := decide_eq_true hk1
              have a4 : (0 : Int) ≤ (k : Int) + 1 := by omega
              have a5 : (k : Int) + 1 < cap2 := by omega
              have a6 : ((k : Int) + 1).toNat = k + 1 := by omega
              have a7 : decide (f3 = t3) = false := decide_eq_false (by omega)
              have a8 : ((f3 : Int) == (t3 : Int)) = false := by rw [beq_eq_false_iff_ne]; omega
              have a9 : ¬ f3 = t3 := by omega
              clear hlt3
              go_quiet (fail)
              go_wp2_with fail
              refine ⟨⟨k + 1, i + 1, congrArg (Value.int .i64) (by omega), congrArg (Value.int .i64) (by omega), HI.out, by omega, by rw [HBD.out, HDR.out], bdrewN HB5.out nq⟩, ?_⟩
              have := HLi.out
              simp only [intOf]
              omega
            · have a1 : ¬ (k : Int) + 1 < M.length := by omega
              have a2 : decide ((k : Int) + 1 < (M.length : Int)) = false := decide_eq_false a1
              have a3 : decide (k + 1 < M.length) = false := decide_eq_false hk1
              clear hB
              go_quiet (fail)
              go_wp2_with fail
              refine ⟨⟨k + 1, i + 1, congrArg (Value.int .i64) (by omega), congrArg (Value.int .i64) (by omega), HI.out, by omega, by rw [HBD.out, HDR.out], bdrewN HB5.out nq⟩, ?_⟩
              have := HLi.out
              simp only [intOf]
              omega
        all_goals
          have HR : RowKit.Hid (tokRel s w4 L M (.int .i64 (k : Nat)) (.int .i64 (i + 1 : Nat)) wr) := Lib.hid ⟨k, i + 1, rfl, rfl, HI.out, HK.out, by rw [HMDr.out, semiRec_silent _ _ _ rfl, HDR.out], HB.out⟩
          go_wp2_with fail
          refine ⟨?_, (by simp [intOf]; first | exact HLi.out | omega)⟩
          first
            | exact HR.out
            | (repeat apply Exists.intro
               refine ⟨?_, rfl⟩
               exact HR.out)
      · have hil : i = L.length := by omega
        have hlt' : ¬ (i : Int) < L.length := by omega
        have hke : k = M.length := by
          have := HMDr.out
          rw [hil, List.drop_of_length_le (Nat.le_refl _)] at this
          have h2 := congrArg List.length this
          rw [List.length_drop] at h2
          simp [semiRec, flushL] at h2
          omega
        have hkb : ((k : Int) == (M.length : Int)) = true := by simp; omega
        have HKE := Lib.hid hke
        clear hil hke
        go_wp2_with fail
        show Q (.returned (.bool true)) _
        exact HQ.out _ (bthen HB4.out HB.out)
  · have hsm := HBAD.out (fun h => her h.1)
    rw [hsm] at h2
    obtain ⟨v2, rfl, hb2, ho2⟩ := h2
    simp only [] at ho2
    have HR2 := Lib.hid (TokRow.of_owns (l := []) ho2)
    obtain ⟨a2, cap2, rfl, hcap2, _⟩ := HR2.out
    have HA2 := Lib.hid (bthen HA1.out hb2)
    have HF2 := Lib.hid ((HF1.out.keep hb2).alloc (.cells #[.int .i64 er, .int .i64 ea] 28))
    have HG2 : RowKit.Hid (FK (w2.alloc (.cells #[.int .i64 er, .int .i64 ea] 28)) w2.heap.size er ea) := Lib.hid (by unfold FK; exact heap_alloc_new _ _)
    have HW2 : RowKit.Hid (Below w2.heap.size w2 (w2.alloc (.cells #[.int .i64 er, .int .i64 ea] 28))) := Lib.hid ((Below.refl _ _).alloc (Nat.le_refl _) _)
    have herb : (er == 0) = false := by rw [beq_eq_false_iff_ne]; exact her
    clear hb2 ho2 HA1 HF1 hsm HBAD HREC HORD
    go_wp2_with fail
    refine (C3.out _ (bthen HB1.out (bthen HA2.out HW2.out))).mono ?_
    rintro e w3 ⟨rfl, hb3⟩
    have HW3 := Lib.hid (bthen HW2.out hb3)
    have HF3 := Lib.hid (HF2.out.keep hb3)
    have HG3 := Lib.hid (HG2.out.keep hb3)
    clear hb3 HW2 HF2 HG2
    have f0 := HF3.out.c0; have f1 := HF3.out.c1
    have g0 := HG3.out.c0; have g1 := HG3.out.c1
    have HB3 := Lib.hid (bthen HB1.out (bthen HA2.out HW3.out))
    go_wp2_with fail
    refine (C3.out _ HB3.out).mono ?_
    rintro e w4 ⟨rfl, hb4⟩
    have HB4 := Lib.hid (bthen HB3.out hb4)
    have HF4 := Lib.hid (HF3.out.keep hb4)
    have HG4 := Lib.hid (HG3.out.keep hb4)
    clear hb4 f0 f1 g0 g1 HF3 HG3
    have f0 := HF4.out.c0; have f1 := HF4.out.c1
    have g0 := HG4.out.c0; have g1 := HG4.out.c1
    go_wp2_with fail
    show Q (.returned (.bool true)) _
    exact HQ.out _ HB4.out
end Go.Proofs.YtcnkcnalabjhgaaDoor
