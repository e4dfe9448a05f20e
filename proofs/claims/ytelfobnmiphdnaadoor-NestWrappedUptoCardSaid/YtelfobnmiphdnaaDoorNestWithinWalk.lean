/- The statement NestWithin, walked: the call returns true. -/
import Derived.Test.YtelfobnmiphdnaaDoorLaw09
import Derived.Test.YtelfobnmiphdnaaDoorNestP
namespace Go.Proofs.YtelfobnmiphdnaaDoor
set_option linter.all false
attribute [local irreducible] Calls
open Go.RowKit

theorem semi_err_ne {s : ByteArray} (h : ¬ ((semiAll s).2.1 = 0 ∧ (semiAll s).2.2 = 0)) : (semiAll s).2.1 ≠ 0 := fun e => h ⟨e, semiAll_err e⟩
theorem nestGo_err (s : ByteArray) (toks : List Tok) : ∀ (r : List Tok) (i : Nat) (op : List Nat) (p : List Int) (m : Nat) (q : Int × Int), nestGo s toks r i op p m = .error q → q.1 = 5 ∨ q.1 = 6
  | [], i, [], p, m, q, h => by rw [nestGo] at h; cases h
  | [], i, o :: _, p, m, q, h => by rw [nestGo] at h; cases h; exact Or.inl rfl
  | t :: r, i, op, p, m, q, h => by
    rw [nestGo_cons] at h
    split at h
    · split at h
      · cases h; exact Or.inr rfl
      · exact nestGo_err s toks r _ _ _ _ q h
    · split at h
      · split at h
        · cases h; exact Or.inl rfl
        · split at h
          · exact nestGo_err s toks r _ _ _ _ q h
          · cases h; exact Or.inl rfl
      · exact nestGo_err s toks r _ _ _ _ q h
/-- A text is well, with partners, or has a fault. -/
theorem nest_cases (s : ByteArray) : (∃ p m, nestAll s = ((semiAll s).1, p, ((m : Nat) : Int), 0, 0) ∧ (scanAll s).2.1 = 0 ∧ nestGo s (semiAll s).1 (semiAll s).1 0 [] (List.replicate (semiAll s).1.length 0) 0 = .ok (p, m)) ∨ (∃ e a, nestAll s = ([], [], 0, e, a) ∧ e ≠ 0) := by
  unfold nestAll
  by_cases h : (semiAll s).2.1 = 0 ∧ (semiAll s).2.2 = 0
  · rw [if_pos h]
    cases hr : nestGo s (semiAll s).1 (semiAll s).1 0 [] (List.replicate (semiAll s).1.length 0) 0 with
    | ok q =>
      refine Or.inl ⟨q.1, q.2, rfl, ?_, rfl⟩
      by_cases hc : (scanAll s).2.1 = 0 ∧ (scanAll s).2.2 = 0
      · exact hc.1
      · have e : semiAll s = ([], (scanAll s).2.1, (scanAll s).2.2) := by unfold semiAll; rw [if_neg hc]
        rw [e] at h
        exact absurd h hc
    | error q =>
      refine Or.inr ⟨q.1, q.2, rfl, ?_⟩
      rcases nestGo_err _ _ _ _ _ _ _ _ hr with g | g <;> rw [g] <;> decide
  · rw [if_neg h]
    exact Or.inr ⟨_, _, rfl, semi_err_ne h⟩
theorem RowInts.atD {w w' : World} {a : Option Addr} {n cap : Nat} {p : List Int} (h : RowInts w (.slice a n cap) .i64 p) (hb : Below w.heap.size w w') (hp : 0 < p.length) :
    ∃ b off, a = some ⟨b, off, Option.none⟩ ∧ n = p.length ∧ p.length ≤ cap ∧ ∀ j, j < p.length → w'.cell? ⟨b, off + j, Option.none⟩ = some (.int .i64 (p.getD j 0)) := by
  obtain ⟨a', cap', hv, hc, h2⟩ := (h.below hb).open'
  simp only [Value.slice.injEq] at hv
  obtain ⟨rfl, rfl, rfl⟩ := hv
  obtain ⟨b, off, ha, _, hcell⟩ := h2 hp
  refine ⟨b, off, ha, rfl, hc, fun j hj => ?_⟩
  rw [hcell j hj, List.getD_eq_getElem?_getD, List.getElem?_eq_getElem hj]; rfl
def inwRel (p : List Int) (w3 : World) (i : Value) (wr : World) : Prop := ∃ k : Nat, i = .int .i64 (k : Int) ∧ k ≤ p.length ∧ Below w3.heap.size w3 wr
def in2Rel (a j : Nat) (w3 : World) (i : Value) (wr : World) : Prop := ∃ k : Nat, i = .int .i64 (k : Int) ∧ a < k ∧ (k ≤ j ∨ k = a + 1) ∧ Below w3.heap.size w3 wr
set_option maxRecDepth 100000 in
set_option maxHeartbeats 8000000 in
theorem NestWithin_walk (s : ByteArray) (hs : s.size ≤ 1048576) (w : World) (hT : Tabs w) (hM : MaxC w) :
    Calls Tryd.prog 3 #[.string s] w fun e w' => e = .returned (.bool true) ∧ Below w.heap.size w w' := by
  have HQ : RowKit.Hid (∀ w', Below w.heap.size w w' → (fun (e : Ending) w' => e = .returned (.bool true) ∧ Below w.heap.size w w') (.returned (.bool true)) w') := Lib.hid fun w' h => ⟨rfl, h⟩
  generalize (fun (e : Ending) w' => e = .returned (.bool true) ∧ Below w.heap.size w w') = Q at *
  have C1 := Lib.hid (nest_Of s (by omega) w hT hM)
  have CF := Lib.hid (fun w' (hb : Below w.heap.size w w') => law09_fixed w' (hT.below hb) (hM.below hb))
  have hnc := nest_cases s
  have HNW := Lib.hid (fun p m => nest_within s (semiAll s).1 p m)
  have HLN := semiAll_len s
  go_enter Tryd.func3, Tryd.ntmps3
  go_wp2_with fail
  refine C1.out.mono ?_
  intro e w1 h1
  unfold nofPost at h1
  rcases hnc with ⟨p, m, hq, _, hgo⟩ | ⟨er, ea, hq, her⟩
  · rw [hq] at h1
    obtain ⟨hpl, hpair⟩ := HNW.out p m hgo
    generalize (semiAll s).1 = L at *
    obtain ⟨v1, v2, rfl, hb1, hr1, hp1, _, _⟩ := h1
    simp only [] at hr1 hp1
    have HB1 := Lib.hid hb1
    have HP1 := Lib.hid hp1
    have HPP := Lib.hid hpair
    have HPL := Lib.hid hpl
    obtain ⟨va, vcap, rfl, _, _⟩ := hr1
    obtain ⟨pa, pcap, rfl, _, _⟩ := hp1.open'
    have HF1 : RowKit.Hid (FK (w1.alloc (.cells #[.int .i64 0, .int .i64 0] 26)) w1.heap.size 0 0) := Lib.hid (by unfold FK; exact heap_alloc_new _ _)
    have HA1 : RowKit.Hid (Below w1.heap.size w1 (w1.alloc (.cells #[.int .i64 0, .int .i64 0] 26))) := Lib.hid ((Below.refl _ _).alloc (Nat.le_refl _) _)
    clear hb1 hp1 hq hgo hpair HNW C1 hpl
    go_wp2_with fail
    refine (CF.out _ (bthen HB1.out HA1.out)).mono ?_
    rintro e w3 ⟨rfl, hb3⟩
    have HA3 := Lib.hid (bthen HA1.out hb3)
    have HF3 := Lib.hid (HF1.out.keep hb3)
    have HB3 := Lib.hid (bthen HB1.out HA3.out)
    have HP3 := Lib.hid (HP1.out.below HA3.out)
    have f0 := HF3.out.c0; have f1 := HF3.out.c1
    have hlen : ((p.length : Int) == (L.length : Int)) = true := by have := HPL.out; rw [beq_iff_eq]; omega
    have hlen2 : ((p.length : Int) != (L.length : Int)) = false := by have := HPL.out; rw [bne_eq_false_iff_eq]; omega
    have hlen3 : (p.length != L.length) = false := by have := HPL.out; rw [bne_eq_false_iff_eq]; omega
    have hplb : p.length ≤ 65537 := by have := HPL.out; omega
    clear hb3 HF1 HA1 HP1
    go_wp2_with fail
    clear f0 f1
    go_loopw [6] (fun i wr => inwRel p w3 i wr) (fun i _ => p.length - (intOf i).toNat)
    case atStart => exact ⟨0, rfl, Nat.zero_le _, Below.refl _ _⟩
    case round =>
      obtain ⟨i, rfl, hi, hb⟩ := hrel
      have HB := Lib.hid hb
      clear hb
      by_cases hlt : i < p.length
      · have hlt' : (i : Int) < p.length := by omega
        obtain ⟨b, off, rfl, _, hpc, hcell⟩ := HP3.out.atD HB.out (show 0 < p.length by omega)
        have HC := Lib.hid (fun W' (hb : Below w3.heap.size w3 W') => show ∀ j, j < p.length → W'.cell? ⟨b, off + j, none⟩ = some (.int .i64 (p.getD j 0)) from fun j hj => by
          obtain ⟨b', off', hbb, _, _, hc⟩ := HP3.out.atD hb (show 0 < p.length by omega)
          simp only [Option.some.injEq, Addr.mk.injEq, and_true] at hbb
          obtain ⟨rfl, rfl⟩ := hbb
          exact hc j hj)
        have hi0 : (0 : Int) ≤ i := by omega
        have hic : (i : Int) < pcap := by omega
        have hwi : IntKind.i64.wrap ((i : Int) + 1) = ((i + 1 : Nat) : Int) := by rw [IntKind.wrap_i64]; omega
        have HI1 : RowKit.Hid (i + 1 ≤ p.length) := Lib.hid hlt
        have HML : RowKit.Hid (p.length - (i + 1) < p.length - i) := Lib.hid (by omega)
        have HPL2 := HPL.out
        have d0 := hcell i hlt
        rcases HPP.out i (by omega) with hm1 | ⟨j, hj1, hj2, hj3, hj4, hj5⟩
        · rw [hm1] at d0
          clear hm1 hcell HPL2
          go_wp2_with fail
          have HR : RowKit.Hid (inwRel p w3 (.int .i64 ((i + 1 : Nat) : Int)) wr) := Lib.hid ⟨i + 1, rfl, HI1.out, HB.out⟩
          refine ⟨?_, (by have := HML.out; simp [intOf]; try omega)⟩
          first
            | exact HR.out
            | (repeat apply Exists.intro
               refine ⟨?_, rfl⟩
               exact HR.out)
        · have d1 := hcell j (by omega)
          rw [hj2] at d0
          rw [hj3] at d1
          have hjm : ((j : Int) == -1) = false := by rw [beq_eq_false_iff_ne]; omega
          have hj0 : (0 : Int) ≤ j := by omega
          have hjl : (j : Int) < p.length := by omega
          have hjc : (j : Int) < pcap := by omega
          have hje : ((j : Int) == (i : Int)) = false := by rw [beq_eq_false_iff_ne]; omega
          have hje2 : (j == i) = false := by rw [beq_eq_false_iff_ne]; omega
          have HJ5 := Lib.hid hj5
          have HJ2 := Lib.hid hj2
          have HJI : RowKit.Hid (p.getD i 0 = j ∧ i < p.length) := Lib.hid ⟨hj2, hlt⟩
          have HJL : RowKit.Hid (j < p.length) := Lib.hid (by omega)
          clear hj1 hj2 hj3 hj4 hj5 hcell HPL2
          go_wp2_with fail
          clear d0 d1
          go_loopw [7] (fun k wr => in2Rel i j w3 k wr) (fun k _ => j + 1 + i - (intOf k).toNat)
          case atStart => exact ⟨i + 1, by simp, by omega, Or.inr rfl, HB.out⟩
          case round =>
            obtain ⟨k, rfl, hk1, hk2, hb⟩ := hrel
            have HB2 := Lib.hid hb
            clear hb
            have d0 := HC.out _ HB2.out i HJI.out.2
            rw [HJI.out.1] at d0
            by_cases hkj : k < j
            · have hkj' : (k : Int) < j := by omega
              have hkd : decide (k < j) = true := decide_eq_true hkj
              have hwd : IntKind.i64.wrap ((k : Int) - (i : Int)) = (k : Int) - (i : Int) := by rw [IntKind.wrap_i64]; omega
              by_cases hk3 : k - i < 300
              · have hk3' : (k : Int) - (i : Int) < 300 := by omega
                have hk0 : (0 : Int) ≤ k := by omega
                have hkl : (k : Int) < p.length := by have := HJL.out; omega
                have hkc : (k : Int) < pcap := by omega
                have hwk : IntKind.i64.wrap ((k : Int) + 1) = ((k + 1 : Nat) : Int) := by rw [IntKind.wrap_i64]; have := HJL.out; omega
                have d2 := HC.out _ HB2.out k (by have := HJL.out; omega)
                have HK5 := HJ5.out k hk1 hkj
                have HMM : RowKit.Hid (j + 1 + i - (k + 1) < j + 1 + i - k) := Lib.hid (by omega)
                have HKK : RowKit.Hid (i < k + 1 ∧ k + 1 ≤ j) := Lib.hid (by omega)
                rcases HK5 with hc | ⟨c, hc, hc1, hc2⟩
                · rw [hc] at d2
                  clear hc
                  go_wp2_with fail
                  go_quiet (fail)
                  have HB4 := Lib.hid (bdrewN HB2.out nq)
                  go_wp2_with fail
                  have HR : RowKit.Hid (in2Rel i j w3 (.int .i64 ((k + 1 : Nat) : Int)) (wr.drewN nq)) := Lib.hid ⟨k + 1, rfl, HKK.out.1, Or.inl HKK.out.2, HB4.out⟩
                  refine ⟨?_, (by have := HMM.out; simp [intOf]; try omega)⟩
                  first
                    | exact HR.out
                    | (repeat apply Exists.intro
                       refine ⟨?_, rfl⟩
                       exact HR.out)
                · rw [hc] at d2
                  have e1 : ((c : Int) == -1) = false := by rw [beq_eq_false_iff_ne]; omega
                  have e2 : ((c : Int) != -1) = true := by rw [bne_iff_ne]; omega
                  have e3 : decide ((c : Int) ≤ (i : Int)) = false := decide_eq_false (by omega)
                  have e4 : decide (c ≤ i) = false := decide_eq_false (by omega)
                  have e5 : decide ((j : Int) ≤ (c : Int)) = false := decide_eq_false (by omega)
                  have e6 : decide (j ≤ c) = false := decide_eq_false (by omega)
                  clear hc hc1 hc2
                  go_wp2_with fail
                  go_quiet (fail)
                  have HB4 := Lib.hid (bdrewN HB2.out nq)
                  go_wp2_with fail
                  have HR : RowKit.Hid (in2Rel i j w3 (.int .i64 ((k + 1 : Nat) : Int)) (wr.drewN nq)) := Lib.hid ⟨k + 1, rfl, HKK.out.1, Or.inl HKK.out.2, HB4.out⟩
                  refine ⟨?_, (by have := HMM.out; simp [intOf]; try omega)⟩
                  first
                    | exact HR.out
                    | (repeat apply Exists.intro
                       refine ⟨?_, rfl⟩
                       exact HR.out)
              · have hk3' : ¬ (k : Int) - (i : Int) < 300 := by omega
                go_wp2_with fail
                have HR : RowKit.Hid (inwRel p w3 (.int .i64 ((i + 1 : Nat) : Int)) wr) := Lib.hid ⟨i + 1, rfl, HI1.out, HB2.out⟩
                refine ⟨?_, (by have := HML.out; simp [intOf]; try omega)⟩
                first
                  | exact HR.out
                  | (repeat apply Exists.intro
                     refine ⟨?_, rfl⟩
                     exact HR.out)
            · have hkj' : ¬ (k : Int) < j := by omega
              have hkd : decide (k < j) = false := decide_eq_false hkj
              go_wp2_with fail
              have HR : RowKit.Hid (inwRel p w3 (.int .i64 ((i + 1 : Nat) : Int)) wr) := Lib.hid ⟨i + 1, rfl, HI1.out, HB2.out⟩
              refine ⟨?_, (by have := HML.out; simp [intOf]; try omega)⟩
              first
                | exact HR.out
                | (repeat apply Exists.intro
                   refine ⟨?_, rfl⟩
                   exact HR.out)
      · have hlt' : ¬ (i : Int) < p.length := by omega
        go_wp2_with fail
        show Q (.returned (.bool true)) _
        exact HQ.out _ (bthen HB3.out HB.out)
  · rw [hq] at h1
    obtain ⟨v1, v2, rfl, hb1, hr1, hp1, _, _⟩ := h1
    simp only [] at hr1 hp1
    have HB1 := Lib.hid hb1
    obtain ⟨va, vcap, rfl, _, _⟩ := hr1
    obtain ⟨pa, pcap, rfl, _, _⟩ := hp1.open'
    have HF1 : RowKit.Hid (FK (w1.alloc (.cells #[.int .i64 er, .int .i64 ea] 26)) w1.heap.size er ea) := Lib.hid (by unfold FK; exact heap_alloc_new _ _)
    have HA1 : RowKit.Hid (Below w1.heap.size w1 (w1.alloc (.cells #[.int .i64 er, .int .i64 ea] 26))) := Lib.hid ((Below.refl _ _).alloc (Nat.le_refl _) _)
    have herb : (er == 0) = false := by rw [beq_eq_false_iff_ne]; exact her
    have hern : (er != 0) = true := by simpa using her
    clear hb1 hp1 hq HNW C1
    go_wp2_with fail
    refine (CF.out _ (bthen HB1.out HA1.out)).mono ?_
    rintro e w3 ⟨rfl, hb3⟩
    have HA3 := Lib.hid (bthen HA1.out hb3)
    have HF3 := Lib.hid (HF1.out.keep hb3)
    have HB3 := Lib.hid (bthen HB1.out HA3.out)
    have f0 := HF3.out.c0; have f1 := HF3.out.c1
    clear hb3 HF1 HA1
    go_wp2_with fail
    refine (CF.out _ HB3.out).mono ?_
    rintro e w4 ⟨rfl, hb4⟩
    have HF4 := Lib.hid (HF3.out.keep hb4)
    have HB4 := Lib.hid (bthen HB3.out hb4)
    clear f0 f1
    have f0 := HF4.out.c0; have f1 := HF4.out.c1
    clear hb4 HF3
    go_wp2_with fail
    show Q (.returned (.bool true)) _
    exact HQ.out _ HB4.out
end Go.Proofs.YtelfobnmiphdnaaDoor
