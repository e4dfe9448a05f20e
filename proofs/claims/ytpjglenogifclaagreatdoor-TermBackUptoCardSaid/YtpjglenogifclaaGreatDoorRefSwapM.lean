/- Layer 11: the document's Swap, walked. -/
import Derived.Test.YtpjglenogifclaaGreatDoorRefSwTM
import Derived.Test.YtpjglenogifclaaGreatDoorSwapM
namespace Go.Proofs.YtpjglenogifclaaGreatDoor
set_option linter.all false
open Go.RowKit

/-- What holds at the loop's head. -/
def rsRel (l : List Prt) (stop M : Nat) (R : Option Nat) (w2 : World) (t c : Value) (wr : World) : Prop :=
  ∃ k q : Nat, c = .int .i64 (k : Int) ∧ t = .int .i64 (q : Int) ∧ k ≤ M ∧ k ≤ q ∧ q ≤ l.length ∧ toZ l stop (M - k) q = R ∧ wr = w2
noncomputable def rsLoop : Code := sndN 1 (fstC (sndN 7 (Tryz.f23.body.getD .skip)))
noncomputable def rsBack : Code := sndN 8 (Tryz.f23.body.getD .skip)
set_option maxRecDepth 100000 in
set_option maxHeartbeats 16000000 in
theorem rswap_loop (u4 u5 u6 u7 u8 u9 u14 u15 u16 u17 u18 u19 u20 u21 u22 u23 u24 u25 u26 u27 u28 u29 u30 u31 u32 u33 u34 u35 u36 u37 u38 u39 u40 u41 u42 u43 u44 u45 u46 u47 u48 u49 u50 u51 u52 u53 u54 u55 u56 u57 u58 u59 u60 u61 u62 u63 u64 u65 u66 u67 u68 u69 u70 u71 u72 u73 u74 u75 u76 u77 u78 u79 u80 u81 u82 u83 u84 u85 u86 u87 u88 u89 u90 u91 u92 u93 u94 u95 u96 : Value) (l : List Prt) (hl : l.length ≤ 10000000) (hl0 : 0 < l.length) (b : List Prt) (hbl : b.length ≤ 10000000) (hw : RowKit.Hid (wellB l = true)) (I m ks U stop : Nat) (hIl : I < l.length) (hks : ks ≤ 10000000) (hstop : RowKit.Hid (endB l U = stop)) (hsl : stop ≤ l.length)
    (hUI : U < I) (lb loff vcap : Nat) (hvc : l.length ≤ vcap) (ba : Option Addr) (bcap : Nat) (hbc : b.length ≤ bcap) (w : World)
    (HR : RowKit.Hid (PartRow w (.slice (some ⟨lb, loff, none⟩) l.length vcap) l)) (HRB : RowKit.Hid (PartRow w (.slice ba b.length bcap) b)) (Q : Ending → World → Prop)
    (R : Option Nat) (HRR : RowKit.Hid (toZ l stop m I = R)) (HNone : RowKit.Hid (R = none → Q (.returned (.tuple #[.slice none 0 0, .int .i64 1])) w))
    (HSome : RowKit.Hid (∀ tq, R = some tq → I ≤ tq ∧ tq ≤ l.length ∧ m ≤ l.length ∧ ∀ v' w', Below w.heap.size w w' → w'.ownsRow w.heap.size 28 3 v' (addK (l.take I) U ((ks : Int) - m) ++ (b ++ l.drop tq)).length (partsV (addK (l.take I) U ((ks : Int) - m) ++ (b ++ l.drop tq))) → Q (.returned (.tuple #[v', .int .i64 0])) w'))
    (K : Act → World → Prop) (hK : ∀ a' w', Code.wp Tryz.prog rsBack (bodyPost Tryz.prog Tryz.f23 Q) a' w' → K a' w') :
    Code.wp Tryz.prog rsLoop (Exit.then K (bodyPost Tryz.prog Tryz.f23 Q)) ⟨#[.slice (some ⟨lb, loff, none⟩) l.length vcap, .int .i64 (I : Int), .int .i64 (m : Int), .slice ba b.length bcap, u4, u5, u6, u7, u8, u9, .int .i64 (ks : Int), .int .i64 (U : Int), .int .i64 (I : Int), .int .i64 0, u14, u15, u16, u17, u18, u19, u20, u21, u22, u23, u24, u25, u26, u27, u28, u29, u30, u31, u32, u33, u34, u35, u36, u37, u38, u39, u40, u41, u42, u43, u44, u45, u46, u47, u48, u49, u50, u51, u52, u53, u54, u55, u56, u57, u58, u59, u60, u61, u62, u63, u64, u65, u66, u67, u68, u69, u70, u71, u72, u73, u74, u75, u76, u77, u78, u79, u80, u81, u82, u83, u84, u85, u86, u87, u88, u89, u90, u91, u92, u93, u94, u95, u96], []⟩ w := by
  unfold rsLoop
  unfold rsBack at hK
  conv => arg 2; whnf
  conv at hK => enter [a', w', 1]; arg 2; whnf
  have hUl : U < l.length := by omega
  have CE : ∀ i, i < l.length → Calls Tryz.prog 28 #[.slice (some ⟨lb, loff, none⟩) l.length vcap, .int .i64 (i : Int)] w fun e w' => e = .returned (.int .i64 (endB l i : Int)) ∧ w = w' := fun i hi => by
    have := ref_End11 l (by omega) _ i (by omega) w HR.out
    rw [endR_end (well_rows hw.out) hi] at this
    exact this
  have CU := CE U hUl
  rw [hstop.out] at CU
  have CU := Lib.hid CU
  have CE := Lib.hid CE
  go_wp2_with fail
  go_loopw [12, 13] (fun t c wr => rsRel l stop m R w t c wr) (fun _ c _ => m - (intOf c).toNat)
  case atStart => exact ⟨0, I, rfl, rfl, Nat.zero_le _, Nat.zero_le _, by omega, by rw [Nat.sub_zero]; exact HRR.out, rfl⟩
  case round =>
    obtain ⟨k, q, rfl, rfl, hk, hkq, hq, hT, rfl⟩ := hrel
    have HT := Lib.hid hT
    clear hT
    by_cases hkM : k < m
    · have hkM' : (k : Int) < m := by omega
      have hstep := HT.out
      rw [show m - k = (m - (k + 1)) + 1 by omega, toZ] at hstep
      by_cases hst : stop ≤ q
      · rw [if_pos hst] at hstep
        have hst' : (stop : Int) ≤ q := by omega
        have HF := Lib.hid (HNone.out hstep.symm)
        clear hstep
        go_wp2_with fail
        refine CU.out.mono ?_
        rintro e w1 ⟨rfl, rfl⟩
        go_wp2_with fail
        exact HF.out
      · rw [if_neg hst] at hstep
        have hst' : ¬ (stop : Int) ≤ q := by omega
        have hql : q < l.length := by omega
        have hg := (endB_gt (well_rows hw.out) hql)
        have CQ := Lib.hid (CE.out q hql)
        have hwk : IntKind.i64.wrap ((k : Int) + 1) = (k : Int) + 1 := by rw [IntKind.wrap_i64]; omega
        have HRL : RowKit.Hid (rsRel l stop m R wr (.int .i64 (endB l q : Int)) (.int .i64 ((k + 1 : Nat) : Int)) wr) := Lib.hid ⟨k + 1, endB l q, rfl, rfl, hkM, by omega, hg.2, hstep, rfl⟩
        have HML : RowKit.Hid (m - (k + 1) < m - k) := Lib.hid (by omega)
        clear hstep hg
        generalize endB l q = et at *
        go_wp2_with fail
        refine CU.out.mono ?_
        rintro e w1 ⟨rfl, rfl⟩
        go_wp2_with fail
        refine CQ.out.mono ?_
        rintro e w1 ⟨rfl, rfl⟩
        go_wp2_with fail
        refine ⟨?_, (by have := HML.out; simp [intOf]; try omega)⟩
        first
          | exact HRL.out
          | (repeat apply Exists.intro
             refine ⟨?_, rfl⟩
             exact HRL.out)
    · have hkM' : ¬ (k : Int) < m := by omega
      have hfin := HT.out
      rw [show m - k = 0 by omega, toZ] at hfin
      obtain ⟨g1, g2, g3, g4⟩ := HSome.out q hfin.symm
      have HIT := Lib.hid (And.intro g1 (And.intro g2 g3))
      have HQ := Lib.hid g4
      have HKB : RowKit.Hid (∀ h : U < l.length, 0 ≤ (l[U]).2.1 ∧ (l[U]).2.1 ≤ 10000000) := Lib.hid fun h => by
        have := kid_bound (well_rows hw.out) h; omega
      clear hfin g1 g2 g3 g4 hkM hk
      go_upto_region 16 with (fail)
      rename_i hK'
      exact rswap_tail _ _ _ _ _ _ _ _ _ _ _ _ _ _ _ _ _ _ _ _ _ _ _ _ _ _ _ _ _ _ _ _ _ _ _ _ _ _ _ _ _ _ _ _ _ _ _ _ _ _ _ _ _ _ _ _ _ _ _ _ _ _ _ _ _ _ _ _ _ _ _ _ _ _ _ _ _ _ _ _ _ _ _ _ _ _ _ _ _ _ l hl hl0 b hbl I q m ks U HIT.out hks hUI HKB.out lb loff vcap hvc ba bcap hbc wr HR HRB Q HQ _ hK'
set_option maxRecDepth 100000 in
set_option maxHeartbeats 16000000 in
theorem ref_Swap11 (l : List Prt) (hl : l.length ≤ 10000000) (v : Value) (i n : Int) (b : List Prt) (hbl : b.length ≤ 10000000) (vb : Value) (w : World) (hr : PartRow w v l) (hrb : PartRow w vb b) :
    Calls Tryz.prog 23 #[v, .int .i64 i, .int .i64 n, vb] w (swapPost (swapZ l i n b) w) := by
  have HQ : RowKit.Hid (∀ v' m x w', swapZ l i n b = (m, x) → Below w.heap.size w w' → w'.ownsRow w.heap.size 28 3 v' m.length (partsV m) → swapPost (swapZ l i n b) w (.returned (.tuple #[v', .int .i64 x])) w') := Lib.hid fun v' m x w' h h2 h3 => by
    unfold swapPost; rw [h]; exact ⟨v', rfl, h2, h3⟩
  have HV : RowKit.Hid (swapZ l i n b = _) := Lib.hid (by unfold swapZ; rfl)
  generalize swapPost (swapZ l i n b) w = Q at *
  have HR := Lib.hid hr
  have HRB := Lib.hid hrb
  have C1 := Lib.hid (ref_Trees11 b (by omega) vb w hrb)
  have C2 := Lib.hid (ref_Well11 l (by omega) v w hr)
  obtain ⟨va, vcap, rfl, hvc⟩ := hr.slice
  obtain ⟨ba, bcap, rfl, hbc⟩ := hrb.slice
  clear hr hrb
  have HNone : RowKit.Hid (∀ x, swapZ l i n b = ([], x) → Q (.returned (.tuple #[.slice none 0 0, .int .i64 x])) w) := Lib.hid fun x hx => HQ.out _ [] x _ hx (Below.refl _ _) (World.ownsRow_nil _ _ _ _)
  go_enter Tryz.func23, Tryz.ntmps23
  go_wp2_with fail
  refine C1.out.mono ?_
  rintro e w1 ⟨rfl, rfl⟩
  have hT : treesZ b = (match rowsB b with | some ts => (ts.length : Int) | none => -1) := rfl
  have HT := Lib.hid hT
  clear hT
  generalize treesZ b = T at *
  go_wp2_with fail
  refine C2.out.mono ?_
  rintro e w1 ⟨rfl, rfl⟩
  cases hw : wellB l with
  | false =>
    have HF := Lib.hid (show swapZ l i n b = ([], 8) by rw [HV.out, if_neg (by simp [hw])])
    clear HV hw
    go_wp2_with fail
    exact HNone.out _ HF.out
  | true =>
    have hv := HV.out
    rw [if_pos hw] at hv
    have HW := Lib.hid hw
    clear HV
    cases hrow : rowsB b with
    | none =>
      have ht := HT.out
      rw [hrow] at hv ht
      simp only [] at ht
      subst ht
      have HF := Lib.hid hv
      clear hrow hv hw
      go_wp2_with fail
      exact HNone.out _ HF.out
    | some ks =>
      have ht := HT.out
      rw [hrow] at hv ht
      simp only [] at ht hv
      subst ht
      have HRW := Lib.hid hrow
      have hksl := (rowsB_sum hrow).2.1
      have hk0 : ¬ (ks.length : Int) < 0 := by omega
      clear hrow
      by_cases hc : 0 ≤ i ∧ i < l.length ∧ 0 ≤ n ∧ (i = 0 → n = 1 ∧ ks.length = 1)
      · rw [if_pos hc] at hv
        obtain ⟨c1', c2', c3', c4'⟩ := hc
        obtain ⟨I, rfl⟩ : ∃ I : Nat, i = I := ⟨i.toNat, by omega⟩
        obtain ⟨m, rfl⟩ : ∃ m : Nat, n = m := ⟨n.toNat, by omega⟩
        have hIl : I < l.length := by omega
        have hl0 : 0 < l.length := by omega
        have hi0 : ¬ (I : Int) < 0 := by omega
        have hil : ¬ (l.length : Int) ≤ I := by omega
        have hn0 : ¬ (m : Int) < 0 := by omega
        rw [Int.toNat_natCast, Int.toNat_natCast] at hv
        by_cases hI : I = 0
        · rw [if_pos (by omega)] at hv
          have HF := Lib.hid hv
          obtain ⟨hm1, hk1⟩ := c4' (by omega)
          have hmb : ((m : Int) == 1) = true := by rw [beq_iff_eq]; omega
          have hmc : ((m : Int) != 1) = false := by rw [bne_eq_false_iff_eq]; omega
          have hk1b : ((ks.length : Int) == 1) = true := by rw [beq_iff_eq]; omega
          have hk1c : ((ks.length : Int) != 1) = false := by rw [bne_eq_false_iff_eq]; omega
          have hIb : ((I : Int) == 0) = true := by rw [beq_iff_eq]; omega
          have hI0 : ¬ (0 : Int) < (I : Int) := by omega
          have hA : Below w.heap.size w (w.alloc (.cells #[] 28)) := (Below.refl _ _).alloc (Nat.le_refl _) _
          obtain ⟨v1, w1, hrun1, ho1, hg1, _⟩ := append_eq (P := Tryz.prog) (w.alloc (.cells #[] 28)) 22 22 28 Tryz.underlying22 w.heap.size Tinfo_part rfl (by decide) _ 0 [] (owns_empty w w.heap.size 28 3 (Nat.le_refl _)) _ b.length (partsV b) (HRB.out.below hA) (partsV_one _) (by omega) (by omega) (by simp)
          rw [Nat.zero_add, List.nil_append] at ho1
          have HG := Lib.hid (HQ.out v1 _ _ w1 HF.out (grown_keeps hA (by simp) (owns_empty w w.heap.size 28 3 (Nat.le_refl _)) hg1) ho1)
          clear hA ho1 hg1 hI c4' hm1 hk1 hw hv
          go_upto_region 7 with (fail)
          go_wp2_with (at_builtin; refine wpList_append_run rfl _ _ _ _ hrun1 rfl rfl rfl rfl ?_)
          exact HG.out
        · rw [if_neg (by omega)] at hv
          have hup := up_pos hw hIl I (by omega)
          have huplt := upI_lt l I I
          have CA := ref_Up11 l (by omega) [l.length] (well_rows hw) (.slice va l.length vcap) I hIl w HR.out
          obtain ⟨U, hU⟩ : ∃ U : Nat, upI l I I = U := ⟨(upI l I I).toNat, by omega⟩
          rw [hU] at CA huplt hv
          rw [Int.toNat_natCast] at hv
          have hUI : U < I := by omega
          have hst := (endB_gt (well_rows hw) (show U < l.length by omega)).2
          have hto := fun e h => toZ_le (well_rows hw) hst m I e (by omega) h
          generalize hse : endB l U = stop at *
          have HSE := Lib.hid hse
          generalize hre : toZ l stop m I = R at *
          have HRE := Lib.hid hre
          have HN1 : RowKit.Hid (R = none → Q (.returned (.tuple #[.slice none 0 0, .int .i64 1])) w) := Lib.hid fun h => HNone.out _ (by rw [hv, h])
          have HS1 : RowKit.Hid (∀ tq, R = some tq → I ≤ tq ∧ tq ≤ l.length ∧ m ≤ l.length ∧ ∀ v' w', Below w.heap.size w w' → w'.ownsRow w.heap.size 28 3 v' (addK (l.take I) U ((ks.length : Int) - m) ++ (b ++ l.drop tq)).length (partsV (addK (l.take I) U ((ks.length : Int) - m) ++ (b ++ l.drop tq))) → Q (.returned (.tuple #[v', .int .i64 0])) w') := Lib.hid fun tq h => by
            have := hto tq h
            exact ⟨by omega, by omega, by omega, fun v' w' gb go => HQ.out v' _ _ w' (by rw [hv, h]) gb go⟩
          have HKS : RowKit.Hid (ks.length ≤ 10000000) := Lib.hid (by omega)
          have CA := Lib.hid CA
          clear hU hup huplt hv hto hse hre c4' hw
          have hIb : ((I : Int) == 0) = false := by rw [beq_eq_false_iff_ne]; omega
          obtain ⟨lb, loff, rfl, _, _, _, _⟩ := HR.out.at (Below.refl _ _) hl0
          clear hI
          go_wp2_with fail
          refine CA.out.mono ?_
          rintro e w1 ⟨rfl, rfl⟩
          go_upto_block 0 with (fail)
          rename_i hK'
          exact rswap_loop _ _ _ _ _ _ _ _ _ _ _ _ _ _ _ _ _ _ _ _ _ _ _ _ _ _ _ _ _ _ _ _ _ _ _ _ _ _ _ _ _ _ _ _ _ _ _ _ _ _ _ _ _ _ _ _ _ _ _ _ _ _ _ _ _ _ _ _ _ _ _ _ _ _ _ _ _ _ _ _ _ _ _ _ _ _ _ _ _ l hl hl0 b hbl HW I m ks.length U stop hIl HKS.out HSE hst hUI lb loff vcap hvc ba bcap hbc w HR HRB Q R HRE HN1 HS1 _ hK'
      · rw [if_neg hc] at hv
        have HF := Lib.hid hv
        clear hv hw
        by_cases h1 : i < 0
        · clear hc
          go_wp2_with fail
          exact HNone.out _ HF.out
        · by_cases h2 : (l.length : Int) ≤ i
          · clear hc
            go_wp2_with fail
            exact HNone.out _ HF.out
          · by_cases h3 : n < 0
            · clear hc
              go_wp2_with fail
              exact HNone.out _ HF.out
            · have hi0 : i = 0 := by
                rcases Classical.em (i = 0) with h | h
                · exact h
                · exact absurd ⟨by omega, by omega, by omega, fun g => absurd g h⟩ hc
              subst hi0
              by_cases hn : n = 1
              · have hk : ks.length ≠ 1 := fun h => hc ⟨by omega, by omega, by omega, fun _ => ⟨hn, h⟩⟩
                subst hn
                have hkb : ((ks.length : Int) == 1) = false := by rw [beq_eq_false_iff_ne]; omega
                have hkn : ((ks.length : Int) != 1) = true := by rw [bne_iff_ne]; omega
                clear hc hk
                go_wp2_with fail
                all_goals
                  show Q (.returned (.tuple #[.slice none 0 0, .int .i64 1])) w
                  exact HNone.out _ HF.out
              · have hnb : (n == 1) = false := by rw [beq_eq_false_iff_ne]; exact hn
                have hnn : (n != 1) = true := by rw [bne_iff_ne]; exact hn
                clear hc hn
                go_wp2_with fail
                all_goals
                  show Q (.returned (.tuple #[.slice none 0 0, .int .i64 1])) w
                  exact HNone.out _ HF.out
end Go.Proofs.YtpjglenogifclaaGreatDoor
