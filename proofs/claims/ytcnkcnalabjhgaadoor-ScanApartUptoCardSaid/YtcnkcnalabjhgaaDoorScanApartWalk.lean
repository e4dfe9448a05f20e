/- The statement ScanApart, walked: the call returns true. -/
import Derived.Test.YtcnkcnalabjhgaaDoorLaw07
import Derived.Test.YtcnkcnalabjhgaaDoorInside
import Derived.Test.YtcnkcnalabjhgaaDoorApartP
namespace Go.Proofs.YtcnkcnalabjhgaaDoor
set_option linter.all false
attribute [local irreducible] wpStill
open Go.RowKit

theorem tok_at {w w' : World} {a : Option Addr} {n cap : Nat} {l : List Tok} (h : TokRow w (.slice a n cap) l) (hb : Below w.heap.size w w') {i : Nat} (hi : i < l.length) :
    ∃ b, a = some ⟨b, 0, none⟩ ∧ n = l.length ∧ l.length ≤ cap ∧ w'.cell? ⟨b, i * 3, none⟩ = some (.int .u8 l[i].1) ∧ w'.cell? ⟨b, i * 3 + 1, none⟩ = some (.int .i64 (l[i].2.1 : Nat)) ∧ w'.cell? ⟨b, i * 3 + 2, none⟩ = some (.int .i64 (l[i].2.2 : Nat)) := by
  obtain ⟨a', cap', hv, hc, hcells⟩ := h.below hb
  simp only [Value.slice.injEq] at hv
  obtain ⟨rfl, rfl, rfl⟩ := hv
  obtain ⟨b, hb', _, hcell⟩ := hcells (by omega)
  have := hcell i hi
  exact ⟨b, hb', rfl, hc, this.1, this.2.1, this.2.2⟩
theorem apart_step {s x : ByteArray} {L : List Tok} {k : Nat} {u : ByteArray} (h : x ++ apartR s (L.drop k) = u) (hk : k < L.length) : (x ++ (s.extract (L[k]).2.1 (L[k]).2.2 ++ nlS)) ++ apartR s (L.drop (k + 1)) = u := by
  rw [List.drop_eq_getElem_cons hk, apartR] at h
  rw [← h]; simp only [ByteArray.append_assoc]
theorem apart_end {s x : ByteArray} {L : List Tok} {k : Nat} {u : ByteArray} (h : x ++ apartR s (L.drop k) = u) (hk : ¬ k < L.length) : x = u := by
  rw [List.drop_of_length_le (by omega), apartR, ByteArray.append_empty] at h; exact h
theorem nbl_drop {s : ByteArray} {L : List Tok} {k : Nat} (hk : k < L.length) : nbl s (L.drop k) = if (L[k]).1 = 10 then nbl s (L.drop (k + 1)) else ((L[k]).1, s.extract (L[k]).2.1 (L[k]).2.2) :: nbl s (L.drop (k + 1)) := by
  rw [List.drop_eq_getElem_cons hk]
  generalize L[k] = t
  obtain ⟨a, b, c⟩ := t
  by_cases h : a = 10
  · subst h; rw [if_pos rfl, nbl_blank]
  · rw [if_neg h, nbl_cons _ _ _ _ _ h]
/-- What holds at the first loop's head. -/
def apRel1 (s u : ByteArray) (w0 : World) (L : List Tok) (t i : Value) (wr : World) : Prop :=
  ∃ (x : ByteArray) (k : Nat), t = .string x ∧ i = .int .i64 k ∧ k ≤ L.length ∧ x ++ apartR s (L.drop k) = u ∧ x.size ≤ 8000 ∧ Below w0.heap.size w0 wr
/-- What holds at the second loop's head. -/
def apRel2 (s u : ByteArray) (w0 : World) (L M : List Tok) (k i : Value) (wr : World) : Prop :=
  ∃ ki ii : Nat, k = .int .i64 ki ∧ i = .int .i64 ii ∧ ii ≤ L.length ∧ ki ≤ M.length ∧ nbl u (M.drop ki) = nbl s (L.drop ii) ∧ Below w0.heap.size w0 wr
/-- What holds at the loops' heads that pass over blanks. -/
def apRel3 (u : ByteArray) (w0 : World) (M : List Tok) (l : List (Int × ByteArray)) (k : Value) (wr : World) : Prop :=
  ∃ ki : Nat, k = .int .i64 ki ∧ ki ≤ M.length ∧ nbl u (M.drop ki) = l ∧ Below w0.heap.size w0 wr
set_option maxRecDepth 100000 in
set_option maxHeartbeats 16000000 in
theorem ScanApart_walk (s : ByteArray) (hs : s.size ≤ 1048576) (w : World) (hT : Tabs w) (hM : MaxC w) :
    Calls Tryd.prog 5 #[.string s] w fun e w' => e = .returned (.bool true) ∧ Below w.heap.size w w' := by
  have HQ : RowKit.Hid (∀ w', Below w.heap.size w w' → (fun (e : Ending) w' => e = .returned (.bool true) ∧ Below w.heap.size w w') (.returned (.bool true)) w') := Lib.hid fun w' h => ⟨rfl, h⟩
  generalize (fun (e : Ending) w' => e = .returned (.bool true) ∧ Below w.heap.size w w') = Q at *
  have C1 := Lib.hid (scan_All s (by omega) w hT hM)
  have C2 := Lib.hid (fun p (hp : p.size ≤ 2147483647) w' (hb : Below w.heap.size w w') => scan_All p hp w' (hT.below hb) (hM.below hb))
  have CF := Lib.hid (fun w' (hb : Below w.heap.size w w') => law07_fixed w' (hT.below hb) (hM.below hb))
  have HIN := Lib.hid (scanAll_in s)
  have HER := Lib.hid (scanAll_err s)
  have HAP := Lib.hid (apart_all s)
  have HKK := Lib.hid (scanAll_kind s)
  have HLN := scanAll_len s
  have hs2 : s.size ≤ 2147483647 := by omega
  clear hs
  go_enter Tryd.func5, Tryd.ntmps5
  go_wp2_with fail
  refine C1.out.mono ?_
  intro e w1 h1
  unfold allPost at h1
  generalize scanAll s = q1 at *
  obtain ⟨L, er, ea⟩ := q1
  simp only [] at *
  obtain ⟨v1, rfl, hb1, ho1⟩ := h1
  have HB1 := Lib.hid hb1
  have HR1 := Lib.hid (TokRow.of_owns ho1)
  obtain ⟨a1, cap1, rfl, hcap1, _⟩ := HR1.out
  have HF1 : RowKit.Hid (FK (w1.alloc (.cells #[.int .i64 er, .int .i64 ea] 28)) w1.heap.size er ea) := Lib.hid (by unfold FK; exact heap_alloc_new _ _)
  have HA1 : RowKit.Hid (Below w1.heap.size w1 (w1.alloc (.cells #[.int .i64 er, .int .i64 ea] 28))) := Lib.hid ((Below.refl _ _).alloc (Nat.le_refl _) _)
  clear hb1 ho1 C1
  go_wp2_with fail
  refine (CF.out _ (bthen HB1.out HA1.out)).mono ?_
  rintro e w3 ⟨rfl, hb3⟩
  have HA3 := Lib.hid (bthen HA1.out hb3)
  have HF3 := Lib.hid (HF1.out.keep hb3)
  have HB3 := Lib.hid (bthen HB1.out HA3.out)
  clear hb3 HA1 HF1
  have f0 := HF3.out.c0; have f1 := HF3.out.c1
  by_cases her : er = 0
  · obtain rfl := HER.out her
    subst her
    by_cases hbig : 4000 < s.size
    · have hbig' : (4000 : Int) < s.size := by omega
      go_wp2_with fail
      refine (CF.out _ HB3.out).mono ?_
      rintro e w4 ⟨rfl, hb4⟩
      have HB4 := Lib.hid (bthen HB3.out hb4)
      go_wp2_with fail
      show Q (.returned (.bool true)) _
      exact HQ.out _ HB4.out
    · have hbig' : ¬ (4000 : Int) < s.size := by omega
      obtain ⟨p1, p2, p3⟩ := HAP.out rfl (by omega)
      have HR3 := Lib.hid (HR1.out.below HA3.out)
      have HU0 : RowKit.Hid (ByteArray.empty ++ apartR s (L.drop 0) = apartR s L) := Lib.hid (by rw [ByteArray.empty_append]; rfl)
      have HP2 := Lib.hid p2
      have HERR := Lib.hid p1
      have HMIN := Lib.hid (scanAll_in (apartR s L))
      have HMK := Lib.hid (scanAll_kind (apartR s L))
      have hMl := scanAll_len (apartR s L)
      have CA := Lib.hid (C2.out (apartR s L) (by omega))
      clear p1 p2 HAP C2 HER HR1
      generalize apartR s L = u at *
      go_wp2_with fail
      go_loopw [5, 6] (fun t i wr => apRel1 s u w3 L t i wr) (fun _ i _ => L.length - (intOf i).toNat)
      case atStart => exact ⟨ByteArray.empty, 0, rfl, rfl, Nat.zero_le _, HU0.out, by show 0 ≤ 8000; omega, Below.refl _ _⟩
      case round =>
        obtain ⟨x, k, rfl, rfl, hk, hx, hxs, hb⟩ := hrel
        have HB := Lib.hid hb
        have HX := Lib.hid hx
        clear hb hx
        by_cases hlt : k < L.length
        · have hlt' : (k : Int) < L.length := by omega
          obtain ⟨b1, rfl, _, _, d0, d1, d2⟩ := tok_at HR3.out HB.out hlt
          have hin := HIN.out L[k] (List.getElem_mem hlt)
          have HST := Lib.hid (apart_step HX.out hlt)
          generalize L[k] = t at *
          obtain ⟨kk, ff, tt⟩ := t
          simp only [] at hin d0 d1 d2 HST
          obtain ⟨g1, g2⟩ := hin
          have HI : RowKit.Hid (k + 1 ≤ L.length) := Lib.hid hlt
          have hpz : (s.extract ff tt).size = tt - ff := piece_size (by omega) g2
          have hsz : (x ++ (s.extract ff tt ++ nlS)).size ≤ u.size := by rw [← HST.out, ByteArray.size_append (a := x ++ (s.extract ff tt ++ nlS))]; omega
          have HSZ : RowKit.Hid ((x ++ (s.extract ff tt ++ nlS)).size ≤ 8000) := Lib.hid (by omega)
          clear hsz
          have q1 : ¬ (ff : Int) < 0 := by omega
          have q2 : ¬ (tt : Int) < (ff : Int) := by omega
          have q3 : ¬ (s.size : Int) < (tt : Int) := by omega
          have r1 : decide ((ff : Int) < 0) = false := decide_eq_false (by omega)
          have r2 : decide (tt < ff) = false := decide_eq_false (by omega)
          have r3 : decide (s.size < tt) = false := decide_eq_false (by omega)
          have q4 : (ff : Int) ≤ tt := by omega
          have q5 : (tt : Int) ≤ s.size := by omega
          have q6 : (0 : Int) ≤ ff := by omega
          have q7 : ff ≤ tt := by omega
          have hk0 : (0 : Int) ≤ k := by omega
          have hkc : (k : Int) < cap1 := by omega
          have hwk : IntKind.i64.wrap ((k : Int) + 1) = ((k + 1 : Nat) : Int) := by rw [IntKind.wrap_i64]; omega
          have c1 : (s.extract ff tt).size + 1 ≤ 9223372036854775807 := by omega
          have c2 : x.size + ((s.extract ff tt).size + 1) ≤ 9223372036854775807 := by omega
          have c3 : ¬ 9223372036854775807 < (s.extract ff tt).size + 1 := by omega
          have c4 : ¬ 9223372036854775807 < x.size + ((s.extract ff tt).size + 1) := by omega
          have m1 : tt - ff + 1 ≤ 9223372036854775807 := by omega
          have m2 : x.size + (tt - ff + 1) ≤ 9223372036854775807 := by omega
          have m3 : ¬ 9223372036854775807 < tt - ff + 1 := by omega
          have m4 : ¬ 9223372036854775807 < x.size + (tt - ff + 1) := by omega
          go_wp2_with fail
          go_quiet (fail)
          go_wp2_with fail
          have HB5 := Lib.hid (bdrewN HB.out nq)
          have d0 : (wr.drewN nq).cell? { block := b1, off := k * 3 } = some (Value.int IntKind.u8 kk) := d0
          have d1 : (wr.drewN nq).cell? { block := b1, off := k * 3 + 1 } = some (Value.int IntKind.i64 (ff : Int)) := d1
          have d2 : (wr.drewN nq).cell? { block := b1, off := k * 3 + 2 } = some (Value.int IntKind.i64 (tt : Int)) := d2
          generalize wr.drewN nq = wq at *
          go_quiet (fail)
          go_wp2_with fail
          refine ⟨⟨_, k + 1, rfl, congrArg (Value.int .i64) (by omega), HI.out, HST.out, HSZ.out, bdrewN HB5.out nq⟩, ?_⟩
          simp only [intOf]
          omega
        · have hlt' : ¬ (k : Int) < L.length := by omega
          obtain rfl := apart_end HX.out hlt
          have HWB := Lib.hid (bthen HB3.out HB.out)
          clear HX
          go_wp2_with fail
          refine (CA.out _ HWB.out).mono ?_
          intro e w5 h5
          unfold allPost at h5
          generalize scanAll x = q5 at *
          obtain ⟨M, er2, ea2⟩ := q5
          have he2 := HERR.out
          simp only [Prod.mk.injEq] at he2
          obtain ⟨rfl, rfl⟩ := he2
          simp only [] at *
          obtain ⟨v2, rfl, hb5, ho5⟩ := h5
          have HB5 := Lib.hid hb5
          have HR5 := Lib.hid (TokRow.of_owns ho5)
          obtain ⟨a2, cap2, rfl, hcap2, _⟩ := HR5.out
          have HF5 : RowKit.Hid (FK (w5.alloc (.cells #[.int .i64 0, .int .i64 0] 28)) w5.heap.size 0 0) := Lib.hid (by unfold FK; exact heap_alloc_new _ _)
          have HA5 : RowKit.Hid (Below w5.heap.size w5 (w5.alloc (.cells #[.int .i64 0, .int .i64 0] 28))) := Lib.hid ((Below.refl _ _).alloc (Nat.le_refl _) _)
          have HRM := Lib.hid (HR5.out.below HA5.out)
          have HRL := Lib.hid (HR3.out.below (bthen HB.out (bthen HB5.out HA5.out)))
          have HWM := Lib.hid (bthen HWB.out (bthen HB5.out HA5.out))
          have HN0 : RowKit.Hid (nbl x (M.drop 0) = nbl s (L.drop 0)) := Lib.hid HP2.out
          have f0 := HF5.out.c0; have f1 := HF5.out.c1
          clear hb5 ho5 HR5 HF5 HR3 HB HWB HERR CA HF3
          go_wp2_with fail
          clear f0 f1
          generalize w5.alloc (.cells #[.int .i64 0, .int .i64 0] 28) = wm at *
          go_loopw [9, 10] (fun k i wr => apRel2 s x wm L M k i wr) (fun _ i _ => L.length - (intOf i).toNat)
          case atStart => exact ⟨0, 0, rfl, rfl, Nat.zero_le _, Nat.zero_le _, HN0.out, Below.refl _ _⟩
          case round =>
            obtain ⟨k, i, rfl, rfl, hi, hk, hnb, hb⟩ := hrel
            have HB := Lib.hid hb
            have HNB := Lib.hid hnb
            clear hb hnb
            by_cases hlt : i < L.length
            · have hlt' : (i : Int) < L.length := by omega
              obtain ⟨b1, rfl, _, _, d0, d1, d2⟩ := tok_at HRL.out HB.out hlt
              have hin := HIN.out L[i] (List.getElem_mem hlt)
              have hkk := HKK.out L[i] (List.getElem_mem hlt)
              have hd := HNB.out
              rw [nbl_drop hlt] at hd
              have HAT1 := Lib.hid (fun w' (hb : Below wm.heap.size wm w') => tok_at HRL.out hb hlt)
              generalize L[i] = t at *
              obtain ⟨kk, ff, tt⟩ := t
              simp only [] at hin hkk d0 d1 d2 hd HAT1
              obtain ⟨g1, g2⟩ := hin
              have HI : RowKit.Hid (i + 1 ≤ L.length) := Lib.hid hlt
              have hi0 : (0 : Int) ≤ i := by omega
              have hic : (i : Int) < cap1 := by omega
              have hwk : IntKind.i64.wrap ((i : Int) + 1) = ((i + 1 : Nat) : Int) := by rw [IntKind.wrap_i64]; omega
              have HKM : RowKit.Hid (k ≤ M.length) := Lib.hid hk
              have HLi : RowKit.Hid (L.length - (i + 1) < L.length - i) := Lib.hid (by omega)
              clear HNB
              by_cases h10 : kk = 10
              · subst h10
                rw [if_pos rfl] at hd
                have HND := Lib.hid hd
                have HR : RowKit.Hid (apRel2 s x wm L M (.int .i64 (k : Nat)) (.int .i64 (i + 1 : Nat)) wr) := Lib.hid ⟨k, i + 1, rfl, rfl, HI.out, HKM.out, HND.out, HB.out⟩
                clear hd
                go_wp2_with fail
                refine ⟨?_, (by simp [intOf]; first | exact HLi.out | omega)⟩
                first
                  | exact HR.out
                  | (repeat apply Exists.intro
                     refine ⟨?_, rfl⟩
                     exact HR.out)
              · rw [if_neg h10] at hd
                have HND := Lib.hid hd
                clear hd
                have hkb : (kk == 10) = false := by rw [beq_eq_false_iff_ne]; exact h10
                have HN10 := Lib.hid h10
                clear h10
                generalize hrest : nbl s (L.drop (i + 1)) = rest at *
                have HRE := Lib.hid hrest
                clear hrest
                go_wp2_with fail
                go_loopw [9] (fun k wr => apRel3 x wm M ((kk, s.extract ff tt) :: rest) k wr) (fun k _ => M.length - (intOf k).toNat)
                case atStart => exact ⟨k, rfl, hk, HND.out, HB.out⟩
                case round =>
                  clear HB HND d0 d1 d2
                  obtain ⟨k2, rfl, hk2, hn2, hb2⟩ := hrel
                  have HB2 := Lib.hid hb2
                  clear hb2
                  by_cases hkl : k2 < M.length
                  · have hkl' : (k2 : Int) < M.length := by omega
                    obtain ⟨b2, rfl, _, _, e0, e1, e2⟩ := tok_at HRM.out HB2.out hkl
                    have hin2 := HMIN.out M[k2] (List.getElem_mem hkl)
                    rw [nbl_drop hkl] at hn2
                    generalize M[k2] = t2 at *
                    obtain ⟨kk2, ff2, tt2⟩ := t2
                    simp only [] at hin2 e0 e1 e2 hn2
                    obtain ⟨g3, g4⟩ := hin2
                    have hk0 : (0 : Int) ≤ k2 := by omega
                    have hkc : (k2 : Int) < cap2 := by omega
                    have hwk2 : IntKind.i64.wrap ((k2 : Int) + 1) = ((k2 + 1 : Nat) : Int) := by rw [IntKind.wrap_i64]; omega
                    have HK2 : RowKit.Hid (k2 + 1 ≤ M.length) := Lib.hid hkl
                    by_cases h20 : kk2 = 10
                    · subst h20
                      rw [if_pos rfl] at hn2
                      have HN2 := Lib.hid hn2
                      clear hn2
                      go_wp2_with fail
                      refine ⟨⟨k2 + 1, congrArg (Value.int .i64) (by omega), HK2.out, HN2.out, HB2.out⟩, ?_⟩
                      simp only [intOf]
                      omega
                    · rw [if_neg h20] at hn2
                      simp only [List.cons.injEq, Prod.mk.injEq] at hn2
                      obtain ⟨⟨rfl, hxt⟩, hrest⟩ := hn2
                      have HRR := Lib.hid (hrest.trans HRE.out.symm)
                      clear hrest
                      have hb2' : (kk2 == 10) = false := hkb
                      obtain ⟨b1', hbb, _, _, d0, d1, d2⟩ := HAT1.out _ HB2.out
                      simp only [Option.some.injEq, Addr.mk.injEq, and_true] at hbb
                      subst hbb
                      have q1 : ((k2 : Int) == (M.length : Int)) = false := by rw [beq_eq_false_iff_ne]; omega
                      have q2 : decide (k2 = M.length) = false := decide_eq_false (by omega)
                      have q3 : ¬ k2 = M.length := by omega
                      have s1 : (ff : Int) ≤ tt := by omega
                      have s2 : (tt : Int) ≤ s.size := by omega
                      have s3 : (0 : Int) ≤ ff := by omega
                      have s4 : ff ≤ tt := by omega
                      have s5 : (ff2 : Int) ≤ tt2 := by omega
                      have s6 : (tt2 : Int) ≤ x.size := by omega
                      have s7 : (0 : Int) ≤ ff2 := by omega
                      have s8 : ff2 ≤ tt2 := by omega
                      go_wp2_with fail
                      go_quiet (fail)
                      go_wp2_with fail
                      refine ⟨⟨k2 + 1, i + 1, congrArg (Value.int .i64) (by omega), congrArg (Value.int .i64) (by omega), HI.out, HK2.out, HRR.out, bdrewN HB2.out nq⟩, ?_⟩
                      simp only [intOf]
                      have := HLi.out
                      omega
                  · exfalso
                    rw [List.drop_of_length_le (l := M) (by omega)] at hn2
                    cases hn2
            · have hlt' : ¬ (i : Int) < L.length := by omega
              have hnil : nbl x (M.drop k) = [] := by
                have := HNB.out
                rw [List.drop_of_length_le (l := L) (by omega)] at this
                exact this
              have HNI := Lib.hid hnil
              clear hnil HNB
              go_wp2_with fail
              go_loopw [9] (fun k wr => apRel3 x wm M [] k wr) (fun k _ => M.length - (intOf k).toNat)
              case atStart => exact ⟨k, rfl, hk, HNI.out, HB.out⟩
              case round =>
                clear HB HNI
                obtain ⟨k2, rfl, hk2, hn2, hb2⟩ := hrel
                have HB2 := Lib.hid hb2
                clear hb2
                by_cases hkl : k2 < M.length
                · have hkl' : (k2 : Int) < M.length := by omega
                  obtain ⟨b2, rfl, _, _, e0, e1, e2⟩ := tok_at HRM.out HB2.out hkl
                  rw [nbl_drop hkl] at hn2
                  generalize M[k2] = t2 at *
                  obtain ⟨kk2, ff2, tt2⟩ := t2
                  simp only [] at e0 e1 e2 hn2
                  have hk0 : (0 : Int) ≤ k2 := by omega
                  have hkc : (k2 : Int) < cap2 := by omega
                  have hwk2 : IntKind.i64.wrap ((k2 : Int) + 1) = ((k2 + 1 : Nat) : Int) := by rw [IntKind.wrap_i64]; omega
                  have HK2 : RowKit.Hid (k2 + 1 ≤ M.length) := Lib.hid hkl
                  by_cases h20 : kk2 = 10
                  · subst h20
                    rw [if_pos rfl] at hn2
                    have HN2 := Lib.hid hn2
                    clear hn2
                    go_wp2_with fail
                    refine ⟨⟨k2 + 1, congrArg (Value.int .i64) (by omega), HK2.out, HN2.out, HB2.out⟩, ?_⟩
                    simp only [intOf]
                    omega
                  · rw [if_neg h20] at hn2
                    cases hn2
                · have hkl' : ¬ (k2 : Int) < M.length := by omega
                  have hke : ((k2 : Int) == (M.length : Int)) = true := by simp; omega
                  go_wp2_with fail
                  show Q (.returned (.bool true)) _
                  exact HQ.out _ (bthen HWM.out HB2.out)
  · have herb : (er == 0) = false := by rw [beq_eq_false_iff_ne]; exact her
    go_wp2_with fail
    refine (CF.out _ HB3.out).mono ?_
    rintro e w4 ⟨rfl, hb4⟩
    have HB4 := Lib.hid (bthen HB3.out hb4)
    go_wp2_with fail
    show Q (.returned (.bool true)) _
    exact HQ.out _ HB4.out
end Go.Proofs.YtcnkcnalabjhgaaDoor
