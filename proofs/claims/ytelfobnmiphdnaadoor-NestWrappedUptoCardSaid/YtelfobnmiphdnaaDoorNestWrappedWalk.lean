/- The statement NestWrapped, walked: the call returns true. -/
import Derived.Test.YtelfobnmiphdnaaDoorNestWithinWalk
import Derived.Test.YtelfobnmiphdnaaDoorNestDeepWalk
namespace Go.Proofs.YtelfobnmiphdnaaDoor
set_option linter.all false
attribute [local irreducible] Calls
open Go.RowKit

theorem bom_three {s : ByteArray} (h : (rd s 0).1 = 65279) : 2 < s.size ∧ (s.extract 0 3).toList = [239, 187, 191] := by
  have hpos : 0 < s.size := by
    rcases Nat.eq_zero_or_pos s.size with g | g
    · rw [rd_out (by omega)] at h; cases h
    · exact g
  rcases rd_cases s 0 hpos with ⟨g, _⟩ | ⟨g1, g2, g3, _, g5, _⟩
  · rw [g] at h; cases h
  · rw [h, Nat.zero_add] at g5
    have hf : form ((65279 : Nat) : Int) = ⟨#[239, 187, 191]⟩ := by decide +kernel
    rw [hf] at g5
    have hz := congrArg ByteArray.size g5
    rw [ByteArray.size_extract] at hz
    have h3 : (⟨#[239, 187, 191]⟩ : ByteArray).size = 3 := rfl
    rw [h3] at hz
    have hn : (rd s 0).2 = 3 := by omega
    rw [hn] at g5
    exact ⟨by omega, by rw [← g5, ByteArray.toList_eq]⟩
theorem nest_wrapped (s u : ByteArray) (hu : u = opS ++ (s ++ endS)) (hbom : (rd s 0).1 ≠ 65279) (hsz : s.size ≤ 65533) (h : (scanAll s).2.1 = 0) (p : List Int) (m : Nat)
    (hn : nestGo s (semiAll s).1 (semiAll s).1 0 [] (List.replicate (semiAll s).1.length 0) 0 = .ok (p, m)) :
    (m = 100 → ∃ a, nestAll u = ([], [], 0, 6, a)) ∧
    (m ≠ 100 → ∃ pu, nestAll u = ((semiAll u).1, pu, ((m + 1 : Nat) : Int), 0, 0) ∧ pu.length = (semiAll s).1.length + 3 ∧ pu.getD 0 0 = (((semiAll s).1.length + 1 : Nat) : Int) ∧
      ∀ k, k < (semiAll s).1.length → pu.getD (k + 1) 0 = if p.getD k 0 = -1 then -1 else p.getD k 0 + 1) := by
  obtain ⟨g1, g2⟩ := wrap_nest s u hu hbom hsz h p m hn
  have hw := (wrap_all s u hu hbom hsz h).1
  have h0 : (semiAll u).2.1 = 0 ∧ (semiAll u).2.2 = 0 := by rw [hw]; exact ⟨rfl, rfl⟩
  refine ⟨fun e => ?_, fun e => ?_⟩
  · obtain ⟨a, ha⟩ := g1 e
    refine ⟨a, ?_⟩
    unfold nestAll; rw [if_pos h0, ha]
  · obtain ⟨pu, ha, hb⟩ := g2 e
    refine ⟨pu, ?_, hb⟩
    unfold nestAll; rw [if_pos h0, ha]
def wrpRel (n : Nat) (W : World) (i : Value) (wr : World) : Prop := ∃ k : Nat, i = .int .i64 (k : Int) ∧ k ≤ n ∧ Below W.heap.size W wr
set_option maxRecDepth 100000 in
set_option maxHeartbeats 8000000 in
theorem NestWrapped_walk (s : ByteArray) (hs : s.size ≤ 1048576) (w : World) (hT : Tabs w) (hM : MaxC w) :
    Calls Tryd.prog 4 #[.string s] w fun e w' => e = .returned (.bool true) ∧ Below w.heap.size w w' := by
  have HQ : RowKit.Hid (∀ w', Below w.heap.size w w' → (fun (e : Ending) w' => e = .returned (.bool true) ∧ Below w.heap.size w w') (.returned (.bool true)) w') := Lib.hid fun w' h => ⟨rfl, h⟩
  generalize (fun (e : Ending) w' => e = .returned (.bool true) ∧ Below w.heap.size w w') = Q at *
  have C1 := Lib.hid (nest_Of s (by omega) w hT hM)
  have CF := Lib.hid (fun w' (hb : Below w.heap.size w w') => law09_fixed w' (hT.below hb) (hM.below hb))
  have C2 := Lib.hid (fun w' (hb : Below w.heap.size w w') => nest_Depth s (by omega) w' (hT.below hb) (hM.below hb))
  have C3 := Lib.hid (fun p (hp : p.size ≤ 2147483647) w' (hb : Below w.heap.size w w') => nest_Of p hp w' (hT.below hb) (hM.below hb))
  have C4 := Lib.hid (fun p (hp : p.size ≤ 2147483647) w' (hb : Below w.heap.size w w') => nest_Depth p hp w' (hT.below hb) (hM.below hb))
  have hnc := nest_cases s
  have HLN := semiAll_len s
  go_enter Tryd.func4, Tryd.ntmps4
  go_wp2_with fail
  refine C1.out.mono ?_
  intro e w1 h1
  unfold nofPost at h1
  rcases hnc with ⟨p, m, hq, hsc, hgo⟩ | ⟨er, ea, hq, her⟩
  · rw [hq] at h1
    have HN0 := Lib.hid (⟨hsc, hgo⟩ : _ ∧ _)
    have HLL := Lib.hid (rfl : (semiAll s).1 = (semiAll s).1)
    have HMB : RowKit.Hid (m ≤ 100) := Lib.hid (by
      have hB := nestGo_B s (semiAll s).1 (semiAll s).1 0 [] (List.replicate (semiAll s).1.length 0) 0
      rw [hgo] at hB
      exact (nestB_mono _ _ _ _ _ _ _ hB (by simp)).2 (by omega))
    obtain ⟨hpl, hpp⟩ := nest_within s (semiAll s).1 p m hgo
    have HPP : RowKit.Hid (∀ i, i < (semiAll s).1.length → p.getD i 0 = -1 ∨ ∃ j : Nat, j < (semiAll s).1.length ∧ p.getD i 0 = (j : Int)) := Lib.hid (fun i hi => by
      rcases hpp i hi with g | ⟨j, g1, g2, _⟩
      · exact Or.inl g
      · exact Or.inr ⟨j, g1, g2⟩)
    clear hpp
    obtain ⟨v1, v2, rfl, hb1, hr1, hp1, _, _⟩ := h1
    simp only [] at hr1 hp1
    have HB1 := Lib.hid hb1
    have HP1 := Lib.hid hp1
    have HR1 := Lib.hid hr1
    have HPL := Lib.hid hpl
    have HQ1 := Lib.hid hq
    obtain ⟨va, vcap, rfl, _, _⟩ := hr1
    obtain ⟨pa, pcap, rfl, _, _⟩ := hp1.open'
    have HF1 : RowKit.Hid (FK (w1.alloc (.cells #[.int .i64 0, .int .i64 0] 26)) w1.heap.size 0 0) := Lib.hid (by unfold FK; exact heap_alloc_new _ _)
    have HA1 : RowKit.Hid (Below w1.heap.size w1 (w1.alloc (.cells #[.int .i64 0, .int .i64 0] 26))) := Lib.hid ((Below.refl _ _).alloc (Nat.le_refl _) _)
    clear hb1 hp1 hq hgo hsc C1 hpl
    go_wp2_with fail
    refine (C2.out _ (bthen HB1.out HA1.out)).mono ?_
    intro e w2 h2
    unfold depthPost at h2
    rw [HQ1.out] at h2
    obtain ⟨rfl, hb2⟩ := h2
    have HA2 := Lib.hid (bthen HA1.out hb2)
    have HF2 := Lib.hid ((HF1.out.keep hb2).alloc (.cells #[.int .i64 0, .int .i64 0] 26))
    have HX2 : RowKit.Hid (Below w1.heap.size w1 (w2.alloc (.cells #[.int .i64 0, .int .i64 0] 26))) := Lib.hid (HA2.out.alloc HA2.out.size _)
    clear hb2 HF1 HA1 C2
    go_wp2_with fail
    refine (CF.out _ (bthen HB1.out HX2.out)).mono ?_
    rintro e w3 ⟨rfl, hb3⟩
    have HA3 := Lib.hid (bthen HX2.out hb3)
    have HF3 := Lib.hid (HF2.out.keep hb3)
    have HB3 := Lib.hid (bthen HB1.out HA3.out)
    have HP3 := Lib.hid (HP1.out.below HA3.out)
    have HR3 := Lib.hid (HR1.out.below HA3.out)
    have f0 := HF3.out.c0; have f1 := HF3.out.c1
    clear hb3 HF2 HA2 HX2 HP1 HR1
    have fin : ∀ (tm : Array Value), True := fun _ => trivial
    by_cases hbig : 65533 < s.size
    · have hbig' : (65533 : Int) < s.size := by omega
      go_wp2_with fail
      refine (CF.out _ HB3.out).mono ?_
      rintro e w4 ⟨rfl, hb4⟩
      go_wp2_with fail
      show Q (.returned (.bool true)) _
      exact HQ.out _ (bthen HB3.out hb4)
    · have hbig' : ¬ (65533 : Int) < s.size := by omega
      by_cases hbom : 2 < s.size ∧ (s.extract 0 3).toList = [239, 187, 191]
      · have h2 : (2 : Int) < s.size := by omega
        have hx : ((s.extract 0 3).toList == [239, 187, 191]) = true := by rw [beq_iff_eq]; exact hbom.2
        clear hbom
        go_wp2_with fail
        refine (CF.out _ HB3.out).mono ?_
        rintro e w4 ⟨rfl, hb4⟩
        go_wp2_with fail
        show Q (.returned (.bool true)) _
        exact HQ.out _ (bthen HB3.out hb4)
      · have HBO : RowKit.Hid ((rd s 0).1 ≠ 65279) := Lib.hid (fun e => hbom (bom_three e))
        obtain ⟨u, hu⟩ : ∃ u, u = (⟨#[40]⟩ ++ s) ++ (⟨#[10, 41]⟩ : ByteArray) := ⟨_, rfl⟩
        have hu2 : u = opS ++ (s ++ endS) := by rw [hu, ByteArray.append_assoc]; rfl
        have hus : u.size = s.size + 3 := by
          rw [hu, ByteArray.size_append, ByteArray.size_append]; show 1 + s.size + 2 = _; omega
        obtain ⟨g1, g2⟩ := nest_wrapped s u hu2 HBO.out (by omega) HN0.out.1 p m HN0.out.2
        have hlu := wrap_len s u hu2 HBO.out (by omega) HN0.out.1
        have hku := fun i hi hj => wrap_kind s u hu2 HBO.out (by omega) HN0.out.1 i hi hj
        have hz1 : ¬ 9223372036854775807 < (⟨#[40]⟩ : ByteArray).size + s.size := by show ¬ _ < 1 + s.size; omega
        have hz2 : ¬ 9223372036854775807 < ((⟨#[40]⟩ : ByteArray) ++ s).size + (⟨#[10, 41]⟩ : ByteArray).size := by rw [ByteArray.size_append]; show ¬ _ < 1 + s.size + 2; omega
        have HU := Lib.hid hu
        have HUS : RowKit.Hid (u.size ≤ 2147483647) := Lib.hid (by omega)
        have hor : (¬ 2 < s.size) ∨ (2 < s.size ∧ ¬ (s.extract 0 3).toList = [239, 187, 191]) := by
          by_cases h2 : 2 < s.size
          · exact Or.inr ⟨h2, fun e => hbom ⟨h2, e⟩⟩
          · exact Or.inl h2
        have HLU := Lib.hid hlu
        have HKU := Lib.hid hku
        have HL0 := Lib.hid HLN
        generalize (semiAll s).1 = L at *
        generalize (semiAll u).1 = M at *
        have hlm : M.length ≤ 70000 := by have := HLU.out; have := HL0.out; omega
        clear hbom hu hu2 hus hlu hku HN0 HQ1 HLL HBO
        rcases hor with h2 | ⟨h2, hx⟩
        · have h2' : ¬ (2 : Int) < s.size := by omega
          go_wp2_with fail
          rw [← HU.out]
          refine (C3.out u HUS.out _ HB3.out).mono ?_
          intro e w5 h5
          unfold nofPost at h5
          by_cases hm : m = 100
          · obtain ⟨a5, hq5⟩ := g1 hm
            subst hm
            rw [hq5] at h5
            obtain ⟨v5, v6, rfl, hb5, hr5, hp5, _, _⟩ := h5
            simp only [] at hr5 hp5
            obtain ⟨_, _, rfl, _, _⟩ := hr5
            obtain ⟨_, _, rfl, _, _⟩ := hp5.open'
            have HB5 := Lib.hid (bthen HB3.out hb5)
            have HF5 : RowKit.Hid (FK (w5.alloc (.cells #[.int .i64 6, .int .i64 a5] 26)) w5.heap.size 6 a5) := Lib.hid (by unfold FK; exact heap_alloc_new _ _)
            have HA5 : RowKit.Hid (Below w5.heap.size w5 (w5.alloc (.cells #[.int .i64 6, .int .i64 a5] 26))) := Lib.hid ((Below.refl _ _).alloc (Nat.le_refl _) _)
            have y0 := HF5.out.c0; have y1 := HF5.out.c1
            clear hb5 hp5 hq5 g1 g2 f0 f1
            go_wp2_with fail
            show Q (.returned (.bool true)) _
            exact HQ.out _ (bthen HB5.out HA5.out)
          · obtain ⟨pu, hq5, hpl5, hp05, hpk5⟩ := g2 hm
            rw [hq5] at h5
            obtain ⟨v5, v6, rfl, hb5, hr5, hp5, _, _⟩ := h5
            simp only [] at hr5 hp5
            have HR5 := Lib.hid hr5
            have HP5 := Lib.hid hp5
            obtain ⟨ma, mcap, rfl, _, _⟩ := hr5
            obtain ⟨ua, ucap, rfl, _, _⟩ := hp5.open'
            have HB5 := Lib.hid (bthen HB3.out hb5)
            have HA5 := Lib.hid hb5
            have HF5 : RowKit.Hid (FK (w5.alloc (.cells #[.int .i64 0, .int .i64 0] 26)) w5.heap.size 0 0) := Lib.hid (by unfold FK; exact heap_alloc_new _ _)
            have HX5 : RowKit.Hid (Below w5.heap.size w5 (w5.alloc (.cells #[.int .i64 0, .int .i64 0] 26))) := Lib.hid ((Below.refl _ _).alloc (Nat.le_refl _) _)
            have hmb : ((m : Int) == 100) = false := by rw [beq_eq_false_iff_ne]; omega
            have HQ5 := Lib.hid hq5
            have HPK := Lib.hid hpk5
            have HP0 := Lib.hid hp05
            have HPL5 := Lib.hid hpl5
            have HM := HMB.out
            clear hb5 hp5 hq5 g1 g2 f0 f1 hm hpk5 hp05 hpl5
            go_wp2_with fail
            rw [← HU.out]
            refine (C4.out u HUS.out _ (bthen HB5.out HX5.out)).mono ?_
            intro e w6 h6
            obtain ⟨rfl, hb6⟩ := depth_known h6 (by rw [HQ5.out])
            have HX6 := Lib.hid (bthen HX5.out hb6)
            have HF6 := Lib.hid ((HF5.out.keep hb6).alloc (.cells #[.int .i64 0, .int .i64 0] 26))
            have HG6 : RowKit.Hid (FK (w6.alloc (.cells #[.int .i64 0, .int .i64 0] 26)) w6.heap.size 0 0) := Lib.hid (by unfold FK; exact heap_alloc_new _ _)
            have HX7 := Lib.hid (HX6.out.alloc HX6.out.size (.cells #[.int .i64 0, .int .i64 0] 26))
            have y0 := HF6.out.c0; have y1 := HF6.out.c1
            have z0 := HG6.out.c0; have z1 := HG6.out.c1
            have hwm : IntKind.i64.wrap ((m : Int) + 1) = (m : Int) + 1 := by rw [IntKind.wrap_i64]; omega
            have hwl3 : IntKind.i64.wrap ((L.length : Int) + 3) = (L.length : Int) + 3 := by rw [IntKind.wrap_i64]; omega
            have hwl1 : IntKind.i64.wrap ((L.length : Int) + 1) = (L.length : Int) + 1 := by rw [IntKind.wrap_i64]; omega
            have hML : ((M.length : Int) != (L.length : Int) + 3) = false := by rw [bne_eq_false_iff_eq]; have := HLU.out; omega
            have hUM : ((pu.length : Int) != (M.length : Int)) = false := by rw [bne_eq_false_iff_eq]; have := HLU.out; have := HPL5.out; omega
            have hUM2 : (pu.length != M.length) = false := by rw [bne_eq_false_iff_eq]; have := HLU.out; have := HPL5.out; omega
            have hU0 : (0 : Int) < pu.length := by have := HPL5.out; omega
            obtain ⟨ub, uoff, rfl, _, huc, hucell⟩ := HP5.out.atD HX7.out (show 0 < pu.length by have := HPL5.out; omega)
            have u0 := hucell 0 (by have := HPL5.out; omega)
            rw [HP0.out, Nat.add_zero] at u0
            have huc0 : (0 : Int) < ucap := by have := HPL5.out; omega
            clear h6 hb6 HF5 HG6 HF6 hucell
            go_wp2_with fail
            have HX8 := Lib.hid (HX7.out)
            have HB8 := Lib.hid (bthen HB5.out HX7.out)
            have HW8 := Lib.hid (bthen HA5.out HX7.out)
            generalize w6.alloc (.cells #[.int .i64 0, .int .i64 0] 26) = W8 at *
            clear u0 y0 y1 z0 z1 HX7
            go_loopw [13] (fun i wr => wrpRel L.length W8 i wr) (fun i _ => L.length - (intOf i).toNat)
            case atStart => exact ⟨0, rfl, Nat.zero_le _, Below.refl _ _⟩
            case round =>
              obtain ⟨i, rfl, hi, hb⟩ := hrel
              have HB := Lib.hid hb
              clear hb
              by_cases hlt : i < L.length
              · have hlt' : (i : Int) < L.length := by omega
                have hiM : i + 1 < M.length := by have := HLU.out; omega
                obtain ⟨mb, rfl, _, hmc, c0, _, _⟩ := HR5.out.at (bthen HX8.out HB.out) hiM
                obtain ⟨lb, rfl, _, hlc, d0, _, _⟩ := HR3.out.at (bthen HW8.out HB.out) hlt
                rw [HKU.out i hlt hiM] at c0
                obtain ⟨pb, poff, rfl, _, hpc, hpcell⟩ := HP3.out.atD (bthen HW8.out HB.out) (show 0 < p.length by have := HPL.out; omega)
                obtain ⟨ub', uoff', hub, _, _, hucell⟩ := HP5.out.atD (bthen HX8.out HB.out) (show 0 < pu.length by have := HPL5.out; omega)
                simp only [Option.some.injEq, Addr.mk.injEq, and_true] at hub
                obtain ⟨rfl, rfl⟩ := hub
                have p0 := hpcell i (by have := HPL.out; omega)
                have q0 := hucell (i + 1) (by have := HPL5.out; omega)
                rw [HPK.out i hlt] at q0
                have hpp := HPP.out i hlt
                generalize p.getD i 0 = x at *
                generalize (L[i]).1 = kk at *
                have hi0 : (0 : Int) ≤ i := by omega
                have hi10 : (0 : Int) ≤ (i : Int) + 1 := by omega
                have hiM' : (i : Int) + 1 < M.length := by omega
                have hiMc : (i : Int) + 1 < mcap := by omega
                have hilc : (i : Int) < vcap := by omega
                have hipl : (i : Int) < p.length := by have := HPL.out; omega
                have hipc : (i : Int) < pcap := by have := HPL.out; omega
                have hiul : (i : Int) + 1 < pu.length := by have := HPL5.out; omega
                have hiuc : (i : Int) + 1 < ucap := by have := HPL5.out; omega
                have hwi : IntKind.i64.wrap ((i : Int) + 1) = (i : Int) + 1 := by rw [IntKind.wrap_i64]; omega
                have htn : ((i : Int) + 1).toNat = i + 1 := by omega
                have HI1 : RowKit.Hid (i + 1 ≤ L.length) := Lib.hid hlt
                have HML2 : RowKit.Hid (L.length - (i + 1) < L.length - i) := Lib.hid (by omega)
                rcases hpp with rfl | ⟨j, hj, rfl⟩
                · rw [if_pos rfl] at q0
                  clear hpcell hucell
                  go_wp2_with fail
                  go_quiet (fail)
                  have HB9 := Lib.hid (bdrewN HB.out nq)
                  go_wp2_with fail
                  have HR : RowKit.Hid (wrpRel L.length W8 (.int .i64 ((i + 1 : Nat) : Int)) (wr.drewN nq)) := Lib.hid ⟨i + 1, rfl, HI1.out, HB9.out⟩
                  refine ⟨?_, (by have := HML2.out; simp [intOf]; try omega)⟩
                  first
                    | exact HR.out
                    | (repeat apply Exists.intro
                       refine ⟨?_, rfl⟩
                       exact HR.out)
                · rw [if_neg (by omega)] at q0
                  have hjm : ((j : Int) == -1) = false := by rw [beq_eq_false_iff_ne]; omega
                  have hjn : ((j : Int) != -1) = true := by rw [bne_iff_ne]; omega
                  have hwj : IntKind.i64.wrap ((j : Int) + 1) = (j : Int) + 1 := by rw [IntKind.wrap_i64]; omega
                  clear hpcell hucell hj
                  go_wp2_with fail
                  go_quiet (fail)
                  have HB9 := Lib.hid (bdrewN HB.out nq)
                  go_wp2_with fail
                  have HR : RowKit.Hid (wrpRel L.length W8 (.int .i64 ((i + 1 : Nat) : Int)) (wr.drewN nq)) := Lib.hid ⟨i + 1, rfl, HI1.out, HB9.out⟩
                  refine ⟨?_, (by have := HML2.out; simp [intOf]; try omega)⟩
                  first
                    | exact HR.out
                    | (repeat apply Exists.intro
                       refine ⟨?_, rfl⟩
                       exact HR.out)
              · have hlt' : ¬ (i : Int) < L.length := by omega
                go_wp2_with fail
                show Q (.returned (.bool true)) _
                exact HQ.out _ (bthen HB8.out HB.out)
        · have h2' : (2 : Int) < s.size := by omega
          have hxb : ((s.extract 0 3).toList == [239, 187, 191]) = false := by rw [beq_eq_false_iff_ne]; exact hx
          clear hx
          go_wp2_with fail
          rw [← HU.out]
          refine (C3.out u HUS.out _ HB3.out).mono ?_
          intro e w5 h5
          unfold nofPost at h5
          by_cases hm : m = 100
          · obtain ⟨a5, hq5⟩ := g1 hm
            subst hm
            rw [hq5] at h5
            obtain ⟨v5, v6, rfl, hb5, hr5, hp5, _, _⟩ := h5
            simp only [] at hr5 hp5
            obtain ⟨_, _, rfl, _, _⟩ := hr5
            obtain ⟨_, _, rfl, _, _⟩ := hp5.open'
            have HB5 := Lib.hid (bthen HB3.out hb5)
            have HF5 : RowKit.Hid (FK (w5.alloc (.cells #[.int .i64 6, .int .i64 a5] 26)) w5.heap.size 6 a5) := Lib.hid (by unfold FK; exact heap_alloc_new _ _)
            have HA5 : RowKit.Hid (Below w5.heap.size w5 (w5.alloc (.cells #[.int .i64 6, .int .i64 a5] 26))) := Lib.hid ((Below.refl _ _).alloc (Nat.le_refl _) _)
            have y0 := HF5.out.c0; have y1 := HF5.out.c1
            clear hb5 hp5 hq5 g1 g2 f0 f1
            go_wp2_with fail
            show Q (.returned (.bool true)) _
            exact HQ.out _ (bthen HB5.out HA5.out)
          · obtain ⟨pu, hq5, hpl5, hp05, hpk5⟩ := g2 hm
            rw [hq5] at h5
            obtain ⟨v5, v6, rfl, hb5, hr5, hp5, _, _⟩ := h5
            simp only [] at hr5 hp5
            have HR5 := Lib.hid hr5
            have HP5 := Lib.hid hp5
            obtain ⟨ma, mcap, rfl, _, _⟩ := hr5
            obtain ⟨ua, ucap, rfl, _, _⟩ := hp5.open'
            have HB5 := Lib.hid (bthen HB3.out hb5)
            have HA5 := Lib.hid hb5
            have HF5 : RowKit.Hid (FK (w5.alloc (.cells #[.int .i64 0, .int .i64 0] 26)) w5.heap.size 0 0) := Lib.hid (by unfold FK; exact heap_alloc_new _ _)
            have HX5 : RowKit.Hid (Below w5.heap.size w5 (w5.alloc (.cells #[.int .i64 0, .int .i64 0] 26))) := Lib.hid ((Below.refl _ _).alloc (Nat.le_refl _) _)
            have hmb : ((m : Int) == 100) = false := by rw [beq_eq_false_iff_ne]; omega
            have HQ5 := Lib.hid hq5
            have HPK := Lib.hid hpk5
            have HP0 := Lib.hid hp05
            have HPL5 := Lib.hid hpl5
            have HM := HMB.out
            clear hb5 hp5 hq5 g1 g2 f0 f1 hm hpk5 hp05 hpl5
            go_wp2_with fail
            rw [← HU.out]
            refine (C4.out u HUS.out _ (bthen HB5.out HX5.out)).mono ?_
            intro e w6 h6
            obtain ⟨rfl, hb6⟩ := depth_known h6 (by rw [HQ5.out])
            have HX6 := Lib.hid (bthen HX5.out hb6)
            have HF6 := Lib.hid ((HF5.out.keep hb6).alloc (.cells #[.int .i64 0, .int .i64 0] 26))
            have HG6 : RowKit.Hid (FK (w6.alloc (.cells #[.int .i64 0, .int .i64 0] 26)) w6.heap.size 0 0) := Lib.hid (by unfold FK; exact heap_alloc_new _ _)
            have HX7 := Lib.hid (HX6.out.alloc HX6.out.size (.cells #[.int .i64 0, .int .i64 0] 26))
            have y0 := HF6.out.c0; have y1 := HF6.out.c1
            have z0 := HG6.out.c0; have z1 := HG6.out.c1
            have hwm : IntKind.i64.wrap ((m : Int) + 1) = (m : Int) + 1 := by rw [IntKind.wrap_i64]; omega
            have hwl3 : IntKind.i64.wrap ((L.length : Int) + 3) = (L.length : Int) + 3 := by rw [IntKind.wrap_i64]; omega
            have hwl1 : IntKind.i64.wrap ((L.length : Int) + 1) = (L.length : Int) + 1 := by rw [IntKind.wrap_i64]; omega
            have hML : ((M.length : Int) != (L.length : Int) + 3) = false := by rw [bne_eq_false_iff_eq]; have := HLU.out; omega
            have hUM : ((pu.length : Int) != (M.length : Int)) = false := by rw [bne_eq_false_iff_eq]; have := HLU.out; have := HPL5.out; omega
            have hUM2 : (pu.length != M.length) = false := by rw [bne_eq_false_iff_eq]; have := HLU.out; have := HPL5.out; omega
            have hU0 : (0 : Int) < pu.length := by have := HPL5.out; omega
            obtain ⟨ub, uoff, rfl, _, huc, hucell⟩ := HP5.out.atD HX7.out (show 0 < pu.length by have := HPL5.out; omega)
            have u0 := hucell 0 (by have := HPL5.out; omega)
            rw [HP0.out, Nat.add_zero] at u0
            have huc0 : (0 : Int) < ucap := by have := HPL5.out; omega
            clear h6 hb6 HF5 HG6 HF6 hucell
            go_wp2_with fail
            have HX8 := Lib.hid (HX7.out)
            have HB8 := Lib.hid (bthen HB5.out HX7.out)
            have HW8 := Lib.hid (bthen HA5.out HX7.out)
            generalize w6.alloc (.cells #[.int .i64 0, .int .i64 0] 26) = W8 at *
            clear u0 y0 y1 z0 z1 HX7
            go_loopw [13] (fun i wr => wrpRel L.length W8 i wr) (fun i _ => L.length - (intOf i).toNat)
            case atStart => exact ⟨0, rfl, Nat.zero_le _, Below.refl _ _⟩
            case round =>
              obtain ⟨i, rfl, hi, hb⟩ := hrel
              have HB := Lib.hid hb
              clear hb
              by_cases hlt : i < L.length
              · have hlt' : (i : Int) < L.length := by omega
                have hiM : i + 1 < M.length := by have := HLU.out; omega
                obtain ⟨mb, rfl, _, hmc, c0, _, _⟩ := HR5.out.at (bthen HX8.out HB.out) hiM
                obtain ⟨lb, rfl, _, hlc, d0, _, _⟩ := HR3.out.at (bthen HW8.out HB.out) hlt
                rw [HKU.out i hlt hiM] at c0
                obtain ⟨pb, poff, rfl, _, hpc, hpcell⟩ := HP3.out.atD (bthen HW8.out HB.out) (show 0 < p.length by have := HPL.out; omega)
                obtain ⟨ub', uoff', hub, _, _, hucell⟩ := HP5.out.atD (bthen HX8.out HB.out) (show 0 < pu.length by have := HPL5.out; omega)
                simp only [Option.some.injEq, Addr.mk.injEq, and_true] at hub
                obtain ⟨rfl, rfl⟩ := hub
                have p0 := hpcell i (by have := HPL.out; omega)
                have q0 := hucell (i + 1) (by have := HPL5.out; omega)
                rw [HPK.out i hlt] at q0
                have hpp := HPP.out i hlt
                generalize p.getD i 0 = x at *
                generalize (L[i]).1 = kk at *
                have hi0 : (0 : Int) ≤ i := by omega
                have hi10 : (0 : Int) ≤ (i : Int) + 1 := by omega
                have hiM' : (i : Int) + 1 < M.length := by omega
                have hiMc : (i : Int) + 1 < mcap := by omega
                have hilc : (i : Int) < vcap := by omega
                have hipl : (i : Int) < p.length := by have := HPL.out; omega
                have hipc : (i : Int) < pcap := by have := HPL.out; omega
                have hiul : (i : Int) + 1 < pu.length := by have := HPL5.out; omega
                have hiuc : (i : Int) + 1 < ucap := by have := HPL5.out; omega
                have hwi : IntKind.i64.wrap ((i : Int) + 1) = (i : Int) + 1 := by rw [IntKind.wrap_i64]; omega
                have htn : ((i : Int) + 1).toNat = i + 1 := by omega
                have HI1 : RowKit.Hid (i + 1 ≤ L.length) := Lib.hid hlt
                have HML2 : RowKit.Hid (L.length - (i + 1) < L.length - i) := Lib.hid (by omega)
                rcases hpp with rfl | ⟨j, hj, rfl⟩
                · rw [if_pos rfl] at q0
                  clear hpcell hucell
                  go_wp2_with fail
                  go_quiet (fail)
                  have HB9 := Lib.hid (bdrewN HB.out nq)
                  go_wp2_with fail
                  have HR : RowKit.Hid (wrpRel L.length W8 (.int .i64 ((i + 1 : Nat) : Int)) (wr.drewN nq)) := Lib.hid ⟨i + 1, rfl, HI1.out, HB9.out⟩
                  refine ⟨?_, (by have := HML2.out; simp [intOf]; try omega)⟩
                  first
                    | exact HR.out
                    | (repeat apply Exists.intro
                       refine ⟨?_, rfl⟩
                       exact HR.out)
                · rw [if_neg (by omega)] at q0
                  have hjm : ((j : Int) == -1) = false := by rw [beq_eq_false_iff_ne]; omega
                  have hjn : ((j : Int) != -1) = true := by rw [bne_iff_ne]; omega
                  have hwj : IntKind.i64.wrap ((j : Int) + 1) = (j : Int) + 1 := by rw [IntKind.wrap_i64]; omega
                  clear hpcell hucell hj
                  go_wp2_with fail
                  go_quiet (fail)
                  have HB9 := Lib.hid (bdrewN HB.out nq)
                  go_wp2_with fail
                  have HR : RowKit.Hid (wrpRel L.length W8 (.int .i64 ((i + 1 : Nat) : Int)) (wr.drewN nq)) := Lib.hid ⟨i + 1, rfl, HI1.out, HB9.out⟩
                  refine ⟨?_, (by have := HML2.out; simp [intOf]; try omega)⟩
                  first
                    | exact HR.out
                    | (repeat apply Exists.intro
                       refine ⟨?_, rfl⟩
                       exact HR.out)
              · have hlt' : ¬ (i : Int) < L.length := by omega
                go_wp2_with fail
                show Q (.returned (.bool true)) _
                exact HQ.out _ (bthen HB8.out HB.out)
  · rw [hq] at h1
    obtain ⟨v1, v2, rfl, hb1, hr1, hp1, _, _⟩ := h1
    simp only [] at hr1 hp1
    have HB1 := Lib.hid hb1
    obtain ⟨va, vcap, rfl, _, _⟩ := hr1
    obtain ⟨pa, pcap, rfl, _, _⟩ := hp1.open'
    have HF1 : RowKit.Hid (FK (w1.alloc (.cells #[.int .i64 er, .int .i64 ea] 26)) w1.heap.size er ea) := Lib.hid (by unfold FK; exact heap_alloc_new _ _)
    have HA1 : RowKit.Hid (Below w1.heap.size w1 (w1.alloc (.cells #[.int .i64 er, .int .i64 ea] 26))) := Lib.hid ((Below.refl _ _).alloc (Nat.le_refl _) _)
    have herb : (er == 0) = false := by rw [beq_eq_false_iff_ne]; exact her
    have hern : (er != 0) = true := by simpa using her
    have HQ1 := Lib.hid hq
    clear hb1 hp1 hq C1
    go_wp2_with fail
    refine (C2.out _ (bthen HB1.out HA1.out)).mono ?_
    intro e w2 h2
    unfold depthPost at h2
    rw [HQ1.out] at h2
    obtain ⟨rfl, hb2⟩ := h2
    have HA2 := Lib.hid (bthen HA1.out hb2)
    have HF2 := Lib.hid ((HF1.out.keep hb2).alloc (.cells #[.int .i64 er, .int .i64 ea] 26))
    have HX2 : RowKit.Hid (Below w1.heap.size w1 (w2.alloc (.cells #[.int .i64 er, .int .i64 ea] 26))) := Lib.hid (HA2.out.alloc HA2.out.size _)
    clear hb2 HF1 HA1 C2
    go_wp2_with fail
    refine (CF.out _ (bthen HB1.out HX2.out)).mono ?_
    rintro e w3 ⟨rfl, hb3⟩
    have HA3 := Lib.hid (bthen HX2.out hb3)
    have HF3 := Lib.hid (HF2.out.keep hb3)
    have HB3 := Lib.hid (bthen HB1.out HA3.out)
    have f0 := HF3.out.c0; have f1 := HF3.out.c1
    clear hb3 HF2 HA2 HX2
    go_wp2_with fail
    refine (CF.out _ HB3.out).mono ?_
    rintro e w4 ⟨rfl, hb4⟩
    go_wp2_with fail
    show Q (.returned (.bool true)) _
    exact HQ.out _ (bthen HB3.out hb4)
end Go.Proofs.YtelfobnmiphdnaaDoor
