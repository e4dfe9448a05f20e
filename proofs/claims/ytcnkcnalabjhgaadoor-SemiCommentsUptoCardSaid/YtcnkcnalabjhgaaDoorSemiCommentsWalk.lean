/- The statement SemiComments, walked: the call returns true. -/
import Derived.Test.YtcnkcnalabjhgaaDoorAlikeW
namespace Go.Proofs.YtcnkcnalabjhgaaDoor
set_option linter.all false
attribute [local irreducible] wpStill
open Go.RowKit

theorem inOrd_in {sz : Nat} : ∀ {l : List Tok} {a : Nat}, inOrd sz a l → ∀ t ∈ l, t.2.1 ≤ t.2.2 ∧ t.2.2 ≤ sz
  | [], _, _ => by intro t ht; cases ht
  | x :: r, a, h => by
    intro t ht
    obtain ⟨h1, h2, h3, h4⟩ := h
    rcases List.mem_cons.1 ht with rfl | ht
    · exact ⟨h2, h3⟩
    · exact inOrd_in h4 t ht
theorem com_step {s x : ByteArray} {L : List Tok} {k : Nat} {u : ByteArray} (h : x ++ comR s (L.drop k) = u) (hk : k < L.length) : (x ++ comQ s L[k]) ++ comR s (L.drop (k + 1)) = u := by
  rw [List.drop_eq_getElem_cons hk, comR] at h
  rw [← h]; simp only [ByteArray.append_assoc]
theorem com_end {s x : ByteArray} {L : List Tok} {k : Nat} {u : ByteArray} (h : x ++ comR s (L.drop k) = u) (hk : ¬ k < L.length) : x = u := by
  rw [List.drop_of_length_le (by omega), comR, ByteArray.append_empty] at h; exact h
/-- The byte that a comment becomes, seen as far as a place of its text. -/
def nlC (p : ByteArray) (k : Nat) (c : Int) : Prop := (c = 10 ∧ ∃ j, j < k ∧ bt p j = 10) ∨ (c = 32 ∧ ∀ j, j < k → bt p j ≠ 10)
theorem nlC_all {s : ByteArray} {kk : Int} {ff tt : Nat} (h1 : ff ≤ tt) (h2 : tt ≤ s.size) {c : Int} (h : nlC (s.extract ff tt) (s.extract ff tt).size c) : c = if hasNl s (kk, ff, tt) then 10 else 32 := by
  have hz := piece_size h1 h2
  rcases h with ⟨rfl, j, j1, j2⟩ | ⟨rfl, h⟩
  · rw [piece_bt (by omega) h2] at j2
    rw [(hasNl_iff h2).2 ⟨ff + j, by omega, by omega, j2⟩]; rfl
  · rw [hasNl_no h2 (fun j j1 j2 => by
      have := h (j - ff) (by omega)
      rw [piece_bt (by omega) h2, show ff + (j - ff) = j by omega] at this
      exact this)]; rfl
/-- What holds at the first loop's head. -/
def coRel1 (s u : ByteArray) (w0 : World) (L : List Tok) (t i : Value) (wr : World) : Prop :=
  ∃ (x : ByteArray) (k : Nat), i = .int .i64 k ∧ k ≤ L.length ∧ x ++ comR s (L.drop k) = u ∧ x.size ≤ 65536 ∧ wr.ownsRow w0.heap.size 5 1 t x.size ((nums x).map (Value.int .u8)) ∧ Below w0.heap.size w0 wr
/-- What holds at the second loop's head. -/
def coRel2 (p : ByteArray) (wq : World) (c k : Value) (wr : World) : Prop := ∃ (cc : Int) (kk : Nat), c = .int .u8 cc ∧ k = .int .i64 kk ∧ kk ≤ p.size ∧ nlC p kk cc ∧ wr = wq
set_option maxRecDepth 100000 in
set_option maxHeartbeats 16000000 in
theorem SemiComments_walk (s : ByteArray) (hs : s.size ≤ 1048576) (w : World) (hT : Tabs w) (hM : MaxC w) :
    Calls Tryd.prog 8 #[.string s] w fun e w' => e = .returned (.bool true) ∧ Below w.heap.size w w' := by
  have HQ : RowKit.Hid (∀ w', Below w.heap.size w w' → (fun (e : Ending) w' => e = .returned (.bool true) ∧ Below w.heap.size w w') (.returned (.bool true)) w') := Lib.hid fun w' h => ⟨rfl, h⟩
  generalize (fun (e : Ending) w' => e = .returned (.bool true) ∧ Below w.heap.size w w') = Q at *
  have C1 := Lib.hid (scan_All s (by omega) w hT hM)
  have C2 := Lib.hid (fun p (hp : p.size ≤ 2147483647) w' (hb : Below w.heap.size w w') => semi_Of p hp w' (hT.below hb) (hM.below hb))
  have C3 := Lib.hid (fun w' (hb : Below w.heap.size w w') => law08_fixed w' (hT.below hb) (hM.below hb))
  have CI := Lib.hid (fun v l ho hl w hr => law08_inside s v l ho (by omega) hl w hr)
  have HORD := Lib.hid (semiAll_ord s)
  have HORA := Lib.hid (scanAll_ord s)
  have HCO := Lib.hid (com_all s)
  have HREC : RowKit.Hid ((scanAll s).2.1 = 0 ∧ (scanAll s).2.2 = 0 → (semiAll s).2 = (0, 0)) := Lib.hid fun h => by unfold semiAll; rw [if_pos h]
  have HBAD : RowKit.Hid (¬ ((scanAll s).2.1 = 0 ∧ (scanAll s).2.2 = 0) → semiAll s = ([], (scanAll s).2.1, (scanAll s).2.2)) := Lib.hid fun h => by unfold semiAll; rw [if_neg h]
  have HER := Lib.hid (scanAll_err s)
  have HK8 := Lib.hid (scanAll_kind s)
  have HSG := Lib.hid (fun h => (@scanAll_good s h).1)
  have HLN := scanAll_len s
  have HLM := semiAll_len s
  have hs2 : s.size ≤ 2147483647 := by omega
  have C2s := Lib.hid (C2.out s hs2)
  clear hs
  go_enter Tryd.func8, Tryd.ntmps8
  go_wp2_with fail
  refine C1.out.mono ?_
  intro e w1 h1
  unfold allPost at h1
  generalize scanAll s = q1 at *
  obtain ⟨L, er, ea⟩ := q1
  simp only [] at *
  obtain ⟨v1, rfl, hb1, ho1⟩ := h1
  have HB1 := Lib.hid hb1
  have HR1 := Lib.hid (TokRow.of_owns ho1)
  obtain ⟨a1, cap1, rfl, hcap1, _⟩ := HR1.out
  have HF1 : RowKit.Hid (FK (w1.alloc (.cells #[.int .i64 er, .int .i64 ea] 28)) w1.heap.size er ea) := Lib.hid (by unfold FK; exact heap_alloc_new _ _)
  have HA1 : RowKit.Hid (Below w1.heap.size w1 (w1.alloc (.cells #[.int .i64 er, .int .i64 ea] 28))) := Lib.hid ((Below.refl _ _).alloc (Nat.le_refl _) _)
  clear hb1 ho1 C1
  go_wp2_with fail
  refine (C2s.out _ (HB1.out.alloc HB1.out.size _)).mono ?_
  intro e w2 h2
  unfold allPost at h2
  by_cases her : er = 0
  · obtain rfl := HER.out her
    subst her
    have hz := HREC.out ⟨rfl, rfl⟩
    have hs6 := HSG.out rfl
    clear HSG
    obtain ⟨p1, p2, p3⟩ := HCO.out rfl
    have HP2 := Lib.hid p2
    have HP3 := Lib.hid p3
    have HU0 : RowKit.Hid (ByteArray.empty ++ comR s (L.drop 0) = comR s L) := Lib.hid (by rw [ByteArray.empty_append]; rfl)
    have HORD1 := Lib.hid (inOrd_in HORD.out)
    have HORA1 := Lib.hid (inOrd_in HORA.out)
    have HORD2 := Lib.hid (inOrd_in (semiAll_ord (comR s L)))
    have CA := Lib.hid (C2.out (comR s L) (by omega))
    have CIA := Lib.hid (fun w hr => CI.out (.slice a1 L.length cap1) L HORA.out (by omega) w hr)
    clear p2 p3 HCO HREC HBAD HER C2 C2s HORA
    generalize semiAll s = q2 at *
    obtain ⟨M, er2, ea2⟩ := q2
    simp only [Prod.mk.injEq] at hz
    obtain ⟨rfl, rfl⟩ := hz
    simp only [] at *
    obtain ⟨v2, rfl, hb2, ho2⟩ := h2
    have HR2 := Lib.hid (TokRow.of_owns ho2)
    obtain ⟨a2, cap2, rfl, hcap2, _⟩ := HR2.out
    have HA2 := Lib.hid (bthen HA1.out hb2)
    have HF2 := Lib.hid ((HF1.out.keep hb2).alloc (.cells #[.int .i64 0, .int .i64 0] 28))
    have HG2 : RowKit.Hid (FK (w2.alloc (.cells #[.int .i64 0, .int .i64 0] 28)) w2.heap.size 0 0) := Lib.hid (by unfold FK; exact heap_alloc_new _ _)
    have HW2 : RowKit.Hid (Below w2.heap.size w2 (w2.alloc (.cells #[.int .i64 0, .int .i64 0] 28))) := Lib.hid ((Below.refl _ _).alloc (Nat.le_refl _) _)
    have CIM := Lib.hid (fun w hr => CI.out (.slice a2 M.length cap2) M HORD.out (by omega) w hr)
    clear hb2 ho2 HA1 HF1 CI HORD
    generalize comR s L = u at *
    go_wp2_with fail
    refine (C3.out _ (bthen HB1.out (bthen HA2.out HW2.out))).mono ?_
    rintro e w3 ⟨rfl, hb3⟩
    have HW3 := Lib.hid (bthen HW2.out hb3)
    have HF3 := Lib.hid (HF2.out.keep hb3)
    have HG3 := Lib.hid (HG2.out.keep hb3)
    clear hb3 HW2 HF2 HG2
    have f0 := HF3.out.c0; have f1 := HF3.out.c1
    have g0 := HG3.out.c0; have g1 := HG3.out.c1
    go_wp2_with fail
    refine (CIA.out _ (HR1.out.below (bthen HA2.out HW3.out))).mono ?_
    rintro e w4 ⟨rfl, hb4⟩
    have HW4 := Lib.hid (bthen HW3.out hb4)
    clear hb4 f0 f1 g0 g1 HF3 HG3 HW3
    go_wp2_with fail
    refine (CIM.out _ (HR2.out.below HW4.out)).mono ?_
    rintro e w5 ⟨rfl, hb5⟩
    have HW5 := Lib.hid (bthen HW4.out hb5)
    have HRM := Lib.hid (HR2.out.below HW5.out)
    have HRL := Lib.hid (HR1.out.below (bthen HA2.out HW5.out))
    have HB5 := Lib.hid (bthen HB1.out (bthen HA2.out HW5.out))
    clear hb5 HW4 HW5 HR1 HR2 CIA CIM HA2 HB1
    go_wp2_with fail
    go_loopw [7, 8] (fun t i wr => coRel1 s u w5 L t i wr) (fun _ i _ => L.length - (intOf i).toNat)
    case atStart => exact ⟨ByteArray.empty, 0, rfl, Nat.zero_le _, HU0.out, by show 0 ≤ 65536; omega, World.ownsRow_nil _ _ _ _, Below.refl _ _⟩
    case round =>
      obtain ⟨x, k, rfl, hk, hx, hxs, ho, hb⟩ := hrel
      obtain ⟨va, vm, vc, rfl⟩ := owns_slice ho
      have HB := Lib.hid hb
      have HO := Lib.hid ho
      have HX := Lib.hid hx
      have hbase := hb.size
      clear hb ho hx
      by_cases hlt : k < L.length
      · have hlt' : (k : Int) < L.length := by omega
        obtain ⟨b1, rfl, _, _, d0, d1, d2⟩ := tok_at2 HRL.out HB.out hlt
        have hin := HORA1.out L[k] (List.getElem_mem hlt)
        have HST := Lib.hid (com_step HX.out hlt)
        have HAT := Lib.hid (fun w' (hb : Below w5.heap.size w5 w') => tok_at2 HRL.out hb hlt)
        generalize L[k] = t at *
        obtain ⟨kk, ff, tt⟩ := t
        simp only [] at hin d0 d1 d2 HST HAT
        obtain ⟨g1, g2⟩ := hin
        have HI : RowKit.Hid (k + 1 ≤ L.length) := Lib.hid hlt
        have hk0 : (0 : Int) ≤ k := by omega
        have hkc : (k : Int) < cap1 := by omega
        have hwk : IntKind.i64.wrap ((k : Int) + 1) = ((k + 1 : Nat) : Int) := by rw [IntKind.wrap_i64]; omega
        have q1 : (ff : Int) ≤ tt := by omega
        have q2 : (tt : Int) ≤ s.size := by omega
        have q3 : (0 : Int) ≤ ff := by omega
        go_wp2_with fail
        go_quiet (fail)
        have HBq := Lib.hid (bdrewN HB.out nq)
        have HOq : RowKit.Hid ((wr.drewN nq).ownsRow w5.heap.size 5 1 (.slice va vm vc) x.size ((nums x).map (Value.int .u8))) := Lib.hid (owns_below HO.out (bdrewN (Below.refl _ _) nq))
        clear HB HO d0 d1 d2
        generalize wr.drewN nq = wq at *
        have HNL := Lib.hid (fun c h => @nlC_all s kk ff tt g1 g2 c h)
        have HCQ : RowKit.Hid (comQ s (kk, ff, tt) = if kk = 11 then nlS else if kk = 12 then ⟨#[if hasNl s (kk, ff, tt) then 10 else 32]⟩ else s.extract ff tt) := Lib.hid rfl
        generalize hpp : s.extract ff tt = p at *
        have HP := Lib.hid hpp
        clear hpp
        go_wp2_with fail
        have hpz : p.size ≤ 65536 := by rw [← HP.out]; rw [piece_size g1 g2]; omega
        have HSZ : RowKit.Hid ((x ++ comQ s (kk, ff, tt)).size ≤ 65536) := Lib.hid (by
          have : (x ++ comQ s (kk, ff, tt)).size ≤ u.size := by rw [← HST.out, ByteArray.size_append (a := x ++ comQ s (kk, ff, tt))]; omega
          omega)
        go_loopw [10, 11] (fun c j wr => coRel2 p wq c j wr) (fun _ j _ => p.size - (intOf j).toNat)
        case atStart => exact ⟨32, 0, rfl, rfl, Nat.zero_le _, Or.inr ⟨rfl, fun j h => absurd h (by omega)⟩, rfl⟩
        case round =>
          obtain ⟨cc, j, rfl, rfl, hj, hnl, rfl⟩ := hrel
          by_cases hjl : j < p.size
          · have hjl' : (j : Int) < p.size := by omega
            have hj0 : (0 : Int) ≤ j := by omega
            have hbt := bt_at p j hjl
            have hbl := bt_lt p j
            have hwj : IntKind.i64.wrap ((j : Int) + 1) = ((j + 1 : Nat) : Int) := by rw [IntKind.wrap_i64]; omega
            have HJ : RowKit.Hid (j + 1 ≤ p.size) := Lib.hid hjl
            by_cases h10 : bt p j = 10
            · have HNX : RowKit.Hid (nlC p (j + 1) 10) := Lib.hid (Or.inl ⟨rfl, j, by omega, h10⟩)
              rw [h10] at hbt
              clear hnl
              go_wp2_with fail
              refine ⟨⟨10, j + 1, rfl, congrArg (Value.int .i64) (by omega), HJ.out, HNX.out, rfl⟩, ?_⟩
              simp only [intOf]
              omega
            · have HNX : RowKit.Hid (nlC p (j + 1) cc) := Lib.hid (by
                rcases hnl with ⟨c1, jj, j1, j2⟩ | ⟨c1, c2⟩
                · exact Or.inl ⟨c1, jj, by omega, j2⟩
                · refine Or.inr ⟨c1, fun jj j1 => ?_⟩
                  rcases Nat.lt_or_ge jj j with q | q
                  · exact c2 jj q
                  · obtain rfl : jj = j := by omega
                    exact h10)
              have h10b : ((bt p j : Int) == 10) = false := by rw [beq_eq_false_iff_ne]; omega
              clear hnl
              go_wp2_with fail
              refine ⟨⟨cc, j + 1, rfl, congrArg (Value.int .i64) (by omega), HJ.out, HNX.out, rfl⟩, ?_⟩
              simp only [intOf]
              omega
          · have hjl' : ¬ (j : Int) < p.size := by omega
            obtain rfl : j = p.size := by omega
            have hcc := HNL.out cc hnl
            have HCC := Lib.hid hcc
            clear hnl hcc HNL hjl
            obtain ⟨b1', hbb, _, _, d0, d1, d2⟩ := HAT.out _ HBq.out
            simp only [Option.some.injEq, Addr.mk.injEq, and_true] at hbb
            subst hbb
            have hbs := HBq.out.size
            by_cases k11 : kk = 11
            · subst k11
              have HQ1 : RowKit.Hid (comQ s (11, ff, tt) = nlS) := Lib.hid (by rw [HCQ.out]; rfl)
              go_wp2_with (at_builtin; refine wpList_append_lit wr #[.int .u8 10] _ rfl _ _ 35 5 rfl Tryd.underlying35 w5.heap.size info_u8 rfl (by decide) _ _ _ rfl HOq.out 1 1 rfl rfl (by decide) (by intro u hu; simp at hu; subst hu; rfl) (by omega) (by omega) hbs ?_)
              intro v' w' hown hgr _
              have hb2 := grown_below HBq.out hbs HOq.out hgr
              have HO2 : RowKit.Hid (w'.ownsRow w5.heap.size 5 1 v' (x ++ comQ s (11, ff, tt)).size ((nums (x ++ comQ s (11, ff, tt))).map (Value.int .u8))) := Lib.hid (by rw [HQ1.out, nums_append, List.map_append, ByteArray.size_append]; exact hown)
              have HB2 := Lib.hid hb2
              clear hown hgr hb2
              go_wp2_with fail
              refine ⟨⟨x ++ comQ s (11, ff, tt), k + 1, congrArg (Value.int .i64) (by omega), HI.out, HST.out, HSZ.out, HO2.out, HB2.out⟩, ?_⟩
              simp only [intOf]
              omega
            · by_cases k12 : kk = 12
              · subst k12
                have HQ1 : RowKit.Hid (comQ s (12, ff, tt) = ⟨#[if hasNl s (12, ff, tt) then 10 else 32]⟩) := Lib.hid (by rw [HCQ.out]; rfl)
                go_wp2_with (at_builtin; refine wpList_append_lit wr #[.int .u8 cc] _ rfl _ _ 35 5 rfl Tryd.underlying35 w5.heap.size info_u8 rfl (by decide) _ _ _ rfl HOq.out 1 1 rfl rfl (by decide) (by intro u hu; simp at hu; subst hu; rfl) (by omega) (by omega) hbs ?_)
                intro v' w' hown hgr _
                have hb2 := grown_below HBq.out hbs HOq.out hgr
                have HO2 : RowKit.Hid (w'.ownsRow w5.heap.size 5 1 v' (x ++ comQ s (12, ff, tt)).size ((nums (x ++ comQ s (12, ff, tt))).map (Value.int .u8))) := Lib.hid (by
                  rw [HQ1.out, nums_append, List.map_append, ByteArray.size_append]
                  rw [HCC.out] at hown
                  revert hown
                  cases hasNl s (12, ff, tt) <;> exact fun h => h)
                have HB2 := Lib.hid hb2
                clear hown hgr hb2
                go_wp2_with fail
                refine ⟨⟨x ++ comQ s (12, ff, tt), k + 1, congrArg (Value.int .i64) (by omega), HI.out, HST.out, HSZ.out, HO2.out, HB2.out⟩, ?_⟩
                simp only [intOf]
                omega
              · have m11 : (kk == 11) = false := by rw [beq_eq_false_iff_ne]; exact k11
                have m12 : (kk == 12) = false := by rw [beq_eq_false_iff_ne]; exact k12
                have HQ1 : RowKit.Hid (comQ s (kk, ff, tt) = p) := Lib.hid (by rw [HCQ.out, if_neg k11, if_neg k12])
                clear k11 k12
                go_wp2_with (at_builtin; refine wpList_append_str rfl _ _ 35 9 rfl w5.heap.size 5 Tryd.underlying35 Tryd.underlying9 info_u8 _ _ _ rfl HOq.out p rfl (by omega) hbs ?_)
                intro v' w' hown hgr
                have hb2 := HBq.out.grown hgr hbs (fun k hk => (HOq.out.lt k hk).1)
                have HO2 : RowKit.Hid (w'.ownsRow w5.heap.size 5 1 v' (x ++ comQ s (kk, ff, tt)).size ((nums (x ++ comQ s (kk, ff, tt))).map (Value.int .u8))) := Lib.hid (by rw [HQ1.out, nums_append, List.map_append, ByteArray.size_append, ← strCells_nums p]; exact hown)
                have HB2 := Lib.hid hb2
                clear hown hgr hb2
                go_wp2_with fail
                refine ⟨⟨x ++ comQ s (kk, ff, tt), k + 1, congrArg (Value.int .i64) (by omega), HI.out, HST.out, HSZ.out, HO2.out, HB2.out⟩, ?_⟩
                simp only [intOf]
                omega
      · have hlt' : ¬ (k : Int) < L.length := by omega
        obtain rfl := com_end HX.out hlt
        have HWB := Lib.hid (bthen HB5.out HB.out)
        obtain ⟨_, ta, tcap, htv, _, _⟩ := Row.of_owns HO.out
        simp only [Value.slice.injEq] at htv
        obtain ⟨rfl, rfl, rfl⟩ := htv
        have hcv := conv_owned HO.out
        rw [strOfNums_nums] at hcv
        have hns : ¬ (65536 : Int) < x.size := by omega
        clear HX
        go_wp2_with fail
        refine (CA.out _ HWB.out).mono ?_
        intro e w6 h6
        unfold allPost at h6
        generalize semiAll x = q5 at *
        obtain ⟨M3, er3, ea3⟩ := q5
        have he2 := HP2.out
        simp only [Prod.mk.injEq] at he2
        obtain ⟨rfl, rfl⟩ := he2
        simp only [] at *
        obtain ⟨v3, rfl, hb6, ho6⟩ := h6
        have HB6 := Lib.hid hb6
        have HR6 := Lib.hid (TokRow.of_owns ho6)
        obtain ⟨a3, cap3, rfl, hcap3, _⟩ := HR6.out
        have HF6 : RowKit.Hid (FK (w6.alloc (.cells #[.int .i64 0, .int .i64 0] 28)) w6.heap.size 0 0) := Lib.hid (by unfold FK; exact heap_alloc_new _ _)
        have HA6 : RowKit.Hid (Below w6.heap.size w6 (w6.alloc (.cells #[.int .i64 0, .int .i64 0] 28))) := Lib.hid ((Below.refl _ _).alloc (Nat.le_refl _) _)
        have HR7 := Lib.hid (HR6.out.below HA6.out)
        have HRN := Lib.hid (HRM.out.below (bthen HB.out (bthen HB6.out HA6.out)))
        have HWM := Lib.hid (bthen HWB.out (bthen HB6.out HA6.out))
        have hcv2 := conv_owned (owns_below HO.out (bthen HB6.out HA6.out))
        rw [strOfNums_nums] at hcv2
        have CL := Lib.hid (fun w hr1 hr2 => law08_alike s x (.slice a2 M.length cap2) (.slice a3 M3.length cap3) M M3 HP3.out.symm HORD1.out HORD2.out (by omega) w hr1 hr2)
        have f0 := HF6.out.c0; have f1 := HF6.out.c1
        clear hb6 ho6 HR6 HRM HWB CA hcv
        go_wp2_with fail
        refine (CL.out _ HRN.out HR7.out).mono ?_
        rintro e w7 ⟨rfl, hb7⟩
        have HB7 := Lib.hid (bthen HWM.out hb7)
        clear hb7 hcv2 f0 f1
        go_wp2_with fail
        show Q (.returned (.bool true)) _
        exact HQ.out _ HB7.out
  · have hsm := HBAD.out (fun h => her h.1)
    rw [hsm] at h2
    obtain ⟨v2, rfl, hb2, ho2⟩ := h2
    simp only [] at ho2
    have HR2 := Lib.hid (TokRow.of_owns (l := []) ho2)
    obtain ⟨a2, cap2, rfl, hcap2, _⟩ := HR2.out
    have HA2 := Lib.hid (bthen HA1.out hb2)
    have HF2 := Lib.hid ((HF1.out.keep hb2).alloc (.cells #[.int .i64 er, .int .i64 ea] 28))
    have HG2 : RowKit.Hid (FK (w2.alloc (.cells #[.int .i64 er, .int .i64 ea] 28)) w2.heap.size er ea) := Lib.hid (by unfold FK; exact heap_alloc_new _ _)
    have HW2 : RowKit.Hid (Below w2.heap.size w2 (w2.alloc (.cells #[.int .i64 er, .int .i64 ea] 28))) := Lib.hid ((Below.refl _ _).alloc (Nat.le_refl _) _)
    have herb : (er == 0) = false := by rw [beq_eq_false_iff_ne]; exact her
    clear hb2 ho2 HA1 HF1 hsm HBAD HREC HORD HCO HORA
    go_wp2_with fail
    refine (C3.out _ (bthen HB1.out (bthen HA2.out HW2.out))).mono ?_
    rintro e w3 ⟨rfl, hb3⟩
    have HW3 := Lib.hid (bthen HW2.out hb3)
    have HF3 := Lib.hid (HF2.out.keep hb3)
    have HG3 := Lib.hid (HG2.out.keep hb3)
    clear hb3 HW2 HF2 HG2
    have f0 := HF3.out.c0; have f1 := HF3.out.c1
    have g0 := HG3.out.c0; have g1 := HG3.out.c1
    have HB3 := Lib.hid (bthen HB1.out (bthen HA2.out HW3.out))
    go_wp2_with fail
    refine (C3.out _ HB3.out).mono ?_
    rintro e w4 ⟨rfl, hb4⟩
    have HB4 := Lib.hid (bthen HB3.out hb4)
    have HF4 := Lib.hid (HF3.out.keep hb4)
    have HG4 := Lib.hid (HG3.out.keep hb4)
    clear hb4 f0 f1 g0 g1 HF3 HG3
    have f0 := HF4.out.c0; have f1 := HF4.out.c1
    have g0 := HG4.out.c0; have g1 := HG4.out.c1
    go_wp2_with fail
    show Q (.returned (.bool true)) _
    exact HQ.out _ HB4.out
end Go.Proofs.YtcnkcnalabjhgaaDoor
