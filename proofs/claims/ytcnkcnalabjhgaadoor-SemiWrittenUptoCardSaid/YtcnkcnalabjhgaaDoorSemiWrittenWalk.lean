/- The statement SemiWritten, walked: the call returns true. -/
import Derived.Test.YtcnkcnalabjhgaaDoorAlikeW
namespace Go.Proofs.YtcnkcnalabjhgaaDoor
set_option linter.all false
attribute [local irreducible] wpStill
open Go.RowKit

theorem semiAll_err0 {s : ByteArray} (h : (semiAll s).2.1 = 0) : (scanAll s).2.1 = 0 ∧ (semiAll s).2.2 = 0 := by
  by_cases hc : (scanAll s).2.1 = 0 ∧ (scanAll s).2.2 = 0
  · refine ⟨hc.1, ?_⟩
    unfold semiAll; rw [if_pos hc]
  · exfalso
    have e : semiAll s = ([], (scanAll s).2.1, (scanAll s).2.2) := by unfold semiAll; rw [if_neg hc]
    rw [e] at h
    exact hc ⟨h, scanAll_err s h⟩
theorem inOrd_all {sz : Nat} : ∀ {l : List Tok} {a : Nat}, inOrd sz a l → ∀ t ∈ l, t.2.1 ≤ t.2.2 ∧ t.2.2 ≤ sz
  | [], _, _ => by intro t ht; cases ht
  | x :: r, a, h => by
    intro t ht
    obtain ⟨h1, h2, h3, h4⟩ := h
    rcases List.mem_cons.1 ht with rfl | ht
    · exact ⟨h2, h3⟩
    · exact inOrd_all h4 t ht
theorem wr_step {s x : ByteArray} {L : List Tok} {k : Nat} {u : ByteArray} (h : x ++ wrR s (L.drop k) = u) (hk : k < L.length) : (x ++ (spS ++ txt s L[k])) ++ wrR s (L.drop (k + 1)) = u := by
  rw [List.drop_eq_getElem_cons hk, wrR] at h
  rw [← h]; simp only [ByteArray.append_assoc]
theorem wr_end {s x : ByteArray} {L : List Tok} {k : Nat} {u : ByteArray} (h : x ++ wrR s (L.drop k) = u) (hk : ¬ k < L.length) : x = u := by
  rw [List.drop_of_length_le (by omega), wrR, ByteArray.append_empty] at h; exact h
/-- What holds at the first loop's head. -/
def wrRel1 (s u : ByteArray) (w0 : World) (L : List Tok) (t i : Value) (wr : World) : Prop :=
  ∃ (x : ByteArray) (k : Nat), t = .string x ∧ i = .int .i64 k ∧ k ≤ L.length ∧ x ++ wrR s (L.drop k) = u ∧ x.size ≤ 16000 ∧ Below w0.heap.size w0 wr
/-- What holds at the second loop's head. -/
def wrRel2 (w0 : World) (M : List Tok) (i : Value) (wr : World) : Prop := ∃ k : Nat, i = .int .i64 k ∧ k ≤ M.length ∧ Below w0.heap.size w0 wr
set_option maxRecDepth 100000 in
set_option maxHeartbeats 16000000 in
theorem SemiWritten_walk (s : ByteArray) (hs : s.size ≤ 1048576) (w : World) (hT : Tabs w) (hM : MaxC w) :
    Calls Tryd.prog 9 #[.string s] w fun e w' => e = .returned (.bool true) ∧ Below w.heap.size w w' := by
  have HQ : RowKit.Hid (∀ w', Below w.heap.size w w' → (fun (e : Ending) w' => e = .returned (.bool true) ∧ Below w.heap.size w w') (.returned (.bool true)) w') := Lib.hid fun w' h => ⟨rfl, h⟩
  generalize (fun (e : Ending) w' => e = .returned (.bool true) ∧ Below w.heap.size w w') = Q at *
  have C1 := Lib.hid (semi_Of s (by omega) w hT hM)
  have C2 := Lib.hid (fun p (hp : p.size ≤ 2147483647) w' (hb : Below w.heap.size w w') => semi_Of p hp w' (hT.below hb) (hM.below hb))
  have CF := Lib.hid (fun w' (hb : Below w.heap.size w w') => law08_fixed w' (hT.below hb) (hM.below hb))
  have CI := Lib.hid (fun v l ho hl w hr => law08_inside s v l ho (by omega) hl w hr)
  have HORD := Lib.hid (semiAll_ord s)
  have HER := Lib.hid (@semiAll_err0 s)
  have HWA := Lib.hid (written_all s)
  have HLN := semiAll_len s
  have hs2 : s.size ≤ 2147483647 := by omega
  clear hs
  go_enter Tryd.func9, Tryd.ntmps9
  go_wp2_with fail
  refine C1.out.mono ?_
  intro e w1 h1
  unfold allPost at h1
  generalize semiAll s = q1 at *
  obtain ⟨L, er, ea⟩ := q1
  simp only [] at *
  obtain ⟨v1, rfl, hb1, ho1⟩ := h1
  have HB1 := Lib.hid hb1
  have HR1 := Lib.hid (TokRow.of_owns ho1)
  obtain ⟨a1, cap1, rfl, hcap1, _⟩ := HR1.out
  have HF1 : RowKit.Hid (FK (w1.alloc (.cells #[.int .i64 er, .int .i64 ea] 28)) w1.heap.size er ea) := Lib.hid (by unfold FK; exact heap_alloc_new _ _)
  have HA1 : RowKit.Hid (Below w1.heap.size w1 (w1.alloc (.cells #[.int .i64 er, .int .i64 ea] 28))) := Lib.hid ((Below.refl _ _).alloc (Nat.le_refl _) _)
  clear hb1 ho1 C1
  go_wp2_with fail
  refine (CF.out _ (bthen HB1.out HA1.out)).mono ?_
  rintro e w3 ⟨rfl, hb3⟩
  have HA3 := Lib.hid (bthen HA1.out hb3)
  have HF3 := Lib.hid (HF1.out.keep hb3)
  have HB3 := Lib.hid (bthen HB1.out HA3.out)
  clear hb3 HA1 HF1
  have f0 := HF3.out.c0; have f1 := HF3.out.c1
  by_cases her : er = 0
  · obtain ⟨herr, rfl⟩ := HER.out her
    subst her
    by_cases hbig : 4000 < s.size
    · have hbig' : (4000 : Int) < s.size := by omega
      clear herr
      go_wp2_with fail
      refine (CF.out _ HB3.out).mono ?_
      rintro e w4 ⟨rfl, hb4⟩
      have HB4 := Lib.hid (bthen HB3.out hb4)
      go_wp2_with fail
      show Q (.returned (.bool true)) _
      exact HQ.out _ HB4.out
    · have hbig' : ¬ (4000 : Int) < s.size := by omega
      obtain ⟨p1, p2, p3, p4⟩ := HWA.out herr (by omega)
      have HU0 : RowKit.Hid (ByteArray.empty ++ wrR s (L.drop 0) = wrR s L) := Lib.hid (by rw [ByteArray.empty_append]; rfl)
      have HP2 := Lib.hid p2
      have HP3 := Lib.hid p3
      have HP4 := Lib.hid p4
      have HORD2 := Lib.hid (inOrd_all (semiAll_ord (wrR s L)))
      have HORD1 := Lib.hid (inOrd_all HORD.out)
      have hMl := semiAll_len (wrR s L)
      have CA := Lib.hid (C2.out (wrR s L) (by omega))
      have HR3 := Lib.hid (HR1.out.below HA3.out)
      have CI2 := Lib.hid (fun w hr => CI.out (.slice a1 L.length cap1) L HORD.out (by omega) w hr)
      clear p2 p3 p4 HWA C2 HER HR1 herr CI HORD
      generalize wrR s L = u at *
      go_wp2_with fail
      refine (CI2.out _ HR3.out).mono ?_
      rintro e w4 ⟨rfl, hb4⟩
      have HR4 := Lib.hid (HR3.out.below hb4)
      have HB4 := Lib.hid (bthen HB3.out hb4)
      clear hb4 f0 f1 HF3 CI2 HR3 HB3 HA3
      go_wp2_with fail
      go_loopw [5, 6] (fun t i wr => wrRel1 s u w4 L t i wr) (fun _ i _ => L.length - (intOf i).toNat)
      case atStart => exact ⟨ByteArray.empty, 0, rfl, rfl, Nat.zero_le _, HU0.out, by show 0 ≤ 16000; omega, Below.refl _ _⟩
      case round =>
        obtain ⟨x, k, rfl, rfl, hk, hx, hxs, hb⟩ := hrel
        have HB := Lib.hid hb
        have HX := Lib.hid hx
        clear hb hx
        by_cases hlt : k < L.length
        · have hlt' : (k : Int) < L.length := by omega
          obtain ⟨b1, rfl, _, _, d0, d1, d2⟩ := tok_at2 HR4.out HB.out hlt
          have hin := HORD1.out L[k] (List.getElem_mem hlt)
          have HST := Lib.hid (wr_step HX.out hlt)
          generalize L[k] = t at *
          obtain ⟨kk, ff, tt⟩ := t
          simp only [] at hin d0 d1 d2 HST
          have CT := Lib.hid (fun W => ref_Text08 s kk ff tt (fun _ => hin) W)
          have HI : RowKit.Hid (k + 1 ≤ L.length) := Lib.hid hlt
          have hsz : (x ++ (spS ++ txt s (kk, ff, tt))).size ≤ u.size := by rw [← HST.out, ByteArray.size_append (a := x ++ (spS ++ txt s (kk, ff, tt)))]; omega
          have HSZ : RowKit.Hid ((x ++ (spS ++ txt s (kk, ff, tt))).size ≤ 16000) := Lib.hid (by omega)
          have hsp : spS.size = 1 := rfl
          rw [ByteArray.size_append, ByteArray.size_append, hsp] at hsz
          generalize txt s (kk, ff, tt) = T at *
          have hk0 : (0 : Int) ≤ k := by omega
          have hkc : (k : Int) < cap1 := by omega
          have hwk : IntKind.i64.wrap ((k : Int) + 1) = ((k + 1 : Nat) : Int) := by rw [IntKind.wrap_i64]; omega
          have c1 : 1 + T.size ≤ 9223372036854775807 := by omega
          have c2 : x.size + (1 + T.size) ≤ 9223372036854775807 := by omega
          have c3 : ¬ 9223372036854775807 < 1 + T.size := by omega
          have c4 : ¬ 9223372036854775807 < x.size + (1 + T.size) := by omega
          clear hsz hsp
          go_wp2_with fail
          refine (CT.out _).mono ?_
          rintro e w5 ⟨rfl, hb5⟩
          have HB5 := Lib.hid (bthen HB.out hb5)
          clear hb5 HB
          go_wp2_with fail
          refine ⟨⟨_, k + 1, rfl, congrArg (Value.int .i64) (by omega), HI.out, HST.out, HSZ.out, HB5.out⟩, ?_⟩
          simp only [intOf]
          omega
        · have hlt' : ¬ (k : Int) < L.length := by omega
          obtain rfl := wr_end HX.out hlt
          have HWB := Lib.hid (bthen HB4.out HB.out)
          clear HX
          go_wp2_with fail
          refine (CA.out _ HWB.out).mono ?_
          intro e w5 h5
          unfold allPost at h5
          generalize semiAll x = q5 at *
          obtain ⟨M, er2, ea2⟩ := q5
          have he2 := HP2.out
          simp only [Prod.mk.injEq] at he2
          obtain ⟨rfl, rfl⟩ := he2
          simp only [] at *
          obtain ⟨v2, rfl, hb5, ho5⟩ := h5
          have HB5 := Lib.hid hb5
          have HR5 := Lib.hid (TokRow.of_owns ho5)
          obtain ⟨a2, cap2, rfl, hcap2, _⟩ := HR5.out
          have HF5 : RowKit.Hid (FK (w5.alloc (.cells #[.int .i64 0, .int .i64 0] 28)) w5.heap.size 0 0) := Lib.hid (by unfold FK; exact heap_alloc_new _ _)
          have HA5 : RowKit.Hid (Below w5.heap.size w5 (w5.alloc (.cells #[.int .i64 0, .int .i64 0] 28))) := Lib.hid ((Below.refl _ _).alloc (Nat.le_refl _) _)
          have HRM := Lib.hid (HR5.out.below HA5.out)
          have HRL := Lib.hid (HR4.out.below (bthen HB.out (bthen HB5.out HA5.out)))
          have HWM := Lib.hid (bthen HWB.out (bthen HB5.out HA5.out))
          have CL := Lib.hid (fun w hr1 hr2 => law08_alike s x (.slice a1 L.length cap1) (.slice a2 M.length cap2) L M HP3.out.symm HORD1.out HORD2.out (by omega) w hr1 hr2)
          clear hb5 ho5 HR5 HR4 HB HWB CA
          go_wp2_with fail
          generalize w5.alloc (.cells #[.int .i64 0, .int .i64 0] 28) = wm at *
          go_loopw [9] (fun i wr => wrRel2 wm M i wr) (fun i _ => M.length - (intOf i).toNat)
          case atStart => exact ⟨0, rfl, Nat.zero_le _, Below.refl _ _⟩
          case round =>
            obtain ⟨k2, rfl, hk2, hb2⟩ := hrel
            have HB2 := Lib.hid hb2
            clear hb2
            by_cases hkl : k2 < M.length
            · have hkl' : (k2 : Int) < M.length := by omega
              obtain ⟨b2, rfl, _, _, e0, e1, e2⟩ := tok_at2 HRM.out HB2.out hkl
              have hin2 := HP4.out M[k2] (List.getElem_mem hkl)
              generalize M[k2] = t2 at *
              obtain ⟨kk2, ff2, tt2⟩ := t2
              simp only [] at hin2 e0 e1 e2
              have hk0 : (0 : Int) ≤ k2 := by omega
              have hkc : (k2 : Int) < cap2 := by omega
              have hwk2 : IntKind.i64.wrap ((k2 : Int) + 1) = ((k2 + 1 : Nat) : Int) := by rw [IntKind.wrap_i64]; omega
              have HK2 : RowKit.Hid (k2 + 1 ≤ M.length) := Lib.hid hkl
              have a7 : decide (tt2 = ff2) = false := decide_eq_false (by omega)
              have a8 : ((tt2 : Int) == (ff2 : Int)) = false := by rw [beq_eq_false_iff_ne]; omega
              have a9 : ¬ tt2 = ff2 := by omega
              clear hin2
              go_wp2_with fail
              go_quiet (fail)
              go_wp2_with fail
              refine ⟨⟨k2 + 1, congrArg (Value.int .i64) (by omega), HK2.out, bdrewN HB2.out nq⟩, ?_⟩
              simp only [intOf]
              omega
            · have hkl' : ¬ (k2 : Int) < M.length := by omega
              have HF6 := Lib.hid (HF5.out.keep HB2.out)
              have f0 := HF6.out.c0; have f1 := HF6.out.c1
              go_wp2_with fail
              refine (CL.out _ (HRL.out.below HB2.out) (HRM.out.below HB2.out)).mono ?_
              rintro e w7 ⟨rfl, hb7⟩
              have HB7 := Lib.hid (bthen HWM.out (bthen HB2.out hb7))
              clear hb7
              go_wp2_with fail
              show Q (.returned (.bool true)) _
              exact HQ.out _ HB7.out
  · have herb : (er == 0) = false := by rw [beq_eq_false_iff_ne]; exact her
    go_wp2_with fail
    refine (CF.out _ HB3.out).mono ?_
    rintro e w4 ⟨rfl, hb4⟩
    have HB4 := Lib.hid (bthen HB3.out hb4)
    go_wp2_with fail
    show Q (.returned (.bool true)) _
    exact HQ.out _ HB4.out
end Go.Proofs.YtcnkcnalabjhgaaDoor
