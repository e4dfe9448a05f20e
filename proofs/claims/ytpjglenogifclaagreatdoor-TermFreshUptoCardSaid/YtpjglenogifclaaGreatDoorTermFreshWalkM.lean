/- The statement TermFresh, walked: the call returns true. -/
import Derived.Test.YtpjglenogifclaaGreatDoorFixPM
import Derived.Test.YtpjglenogifclaaGreatDoorAppEqM
import Derived.Test.YtpjglenogifclaaGreatDoorTermSwapsWalkM
namespace Go.Proofs.YtpjglenogifclaaGreatDoor
set_option linter.all false
attribute [local irreducible] Calls
open Go.RowKit

def askL (l : List Prt) : List Prt := l ++ [(0, 0, ⟨#[63]⟩)]
theorem askL_len (l : List Prt) : (askL l).length = l.length + 1 := by simp [askL]
/-- 'append(append(make([]Part, 0, len(l)+1), l...), Part{Word: "?"})'. -/
theorem fresh_row (w : World) (v : Value) (l : List Prt) (hr : PartRow w v l) (hl : l.length ≤ 1000) :
    ∃ wa v1 w1 g c w2, (Instr.makeSlice 22 (.int .i64 0) (.int .i64 ((l.length : Int) + 1))).run Tryz.prog w = .ok (.slice (some ⟨w.heap.size, 0, none⟩) 0 (l.length + 1)) wa ∧
    (Builtin.append_ #[22, 22] 22 #[.slice (some ⟨w.heap.size, 0, none⟩) 0 (l.length + 1), v]).run Tryz.prog wa = .ok v1 w1 ∧
    (Builtin.append_ #[22, 22] 22 #[v1, .slice (some ⟨w1.heap.size, 0, none⟩) 1 1]).run Tryz.prog (w1.alloc (.cells #[.int .u8 0, .int .i64 0, .string ⟨#[63]⟩] 28)) = .ok (.slice (some ⟨g, 0, none⟩) (l.length + 1) c) w2 ∧
    Below w.heap.size w w2 ∧ w2.ownsRow w.heap.size 28 3 (.slice (some ⟨g, 0, none⟩) (l.length + 1) c) (l.length + 1) (partsV (askL l)) := by
  obtain ⟨i, hi, hz, hsz, hb⟩ := info_parts Tinfo_part
  have hmk := run_make (P := Tryz.prog) w 22 28 i _ Tryz.underlying22 hi hz .i64 .i64 0 ((l.length : Int) + 1) (by omega) (by omega) (by rw [hb]; omega) (by omega)
  rw [hsz] at hmk
  have hN : ((l.length : Int) + 1).toNat = l.length + 1 := by omega
  rw [hN] at hmk
  have ho0 : (w.alloc (.cells (zeroP (l.length + 1)) 28)).ownsRow w.heap.size 28 3 (.slice (some ⟨w.heap.size, 0, none⟩) 0 (l.length + 1)) 0 [] :=
    ⟨rfl, Or.inr ⟨w.heap.size, l.length + 1, zeroP (l.length + 1), rfl, Nat.le_refl _, heap_alloc_new _ _, by omega, by unfold maxLen; omega, by rw [zeroP_size], by simp⟩⟩
  have hb0 : Below w.heap.size w (w.alloc (.cells (zeroP (l.length + 1)) 28)) := (Below.refl _ _).alloc (Nat.le_refl _) _
  obtain ⟨v1, w1, r1, o1, g1, _⟩ := append_eq (P := Tryz.prog) _ 22 22 28 Tryz.underlying22 w.heap.size Tinfo_part rfl (by decide) _ 0 [] ho0 v l.length (partsV l) (hr.below hb0) (partsV_one l) (by omega) (by omega) hb0.size
  have hb1 := grown_keeps hb0 hb0.size ho0 g1
  rw [Nat.zero_add, List.nil_append] at o1
  obtain ⟨v2, w2, r2, o2, g2, _⟩ := append_lit_eq (P := Tryz.prog) w1 #[.int .u8 0, .int .i64 0, .string ⟨#[63]⟩] 28 22 22 28 Tryz.underlying22 w.heap.size Tinfo_part rfl (by decide) v1 l.length (partsV l) o1 1 1 rfl (Nat.le_refl _) (by intro u hu; simp at hu; rcases hu with rfl | rfl | rfl <;> rfl) (by omega) (by omega) hb1.size
  have hb2 := grown_keeps (hb1.alloc hb1.size _) (by have := hb1.size; simp; omega) (o1.alloc _) g2
  have e2 : partsV l ++ (#[Value.int .u8 0, .int .i64 0, .string ⟨#[63]⟩] : Array Value).toList = partsV (askL l) := by unfold askL; rw [partsV_append]; rfl
  rw [e2] at o2
  obtain ⟨a2, m2, c2, rfl⟩ := owns_slice o2
  obtain rfl : m2 = l.length + 1 := by
    obtain ⟨_, _, _, e, _⟩ := Row.of_owns o2
    simp only [Value.slice.injEq] at e
    exact e.2.1
  obtain ⟨g, rfl⟩ := ownsRow_some o2 (by omega)
  exact ⟨_, v1, w1, g, c2, w2, hmk, r1, r2, hb2, o2⟩
theorem ask_take (l : List Prt) : (partsV (askL l)).take (l.length * 3) = partsV l := by
  unfold askL
  rw [partsV_append, ← partsV_length, List.take_left]
theorem ask_last {W : World} {B g c : Nat} {l : List Prt} (h : W.ownsRow B 28 3 (.slice (some ⟨g, 0, none⟩) (l.length + 1) c) (l.length + 1) (partsV (askL l))) : W.cell? ⟨g, l.length * 3 + 2, none⟩ = some (.string ⟨#[63]⟩) := by
  rw [h.cellAt _ (by omega)]
  unfold askL
  rw [partsV_append, List.getElem?_append_right (by rw [partsV_length]; omega), partsV_length, show l.length * 3 + 2 - l.length * 3 = 2 by omega]
  rfl
theorem ask_row {W : World} {B g c : Nat} {l : List Prt} (h : W.ownsRow B 28 3 (.slice (some ⟨g, 0, none⟩) (l.length + 1) c) (l.length + 1) (partsV (askL l))) : PartRow W (.slice (some ⟨g, 0, none⟩) l.length c) l := by
  have := ownsRow_take h (k := l.length) (by omega)
  rw [ask_take] at this
  exact Row.of_owns this
/-- What holds at the loop's head. -/
def frRel (W2 : World) (n : Nat) (v : Value) (i : Value) (wr : World) : Prop :=
  ∃ (k : Nat) (xs : List Value), i = .int .i64 (k : Int) ∧ k ≤ n ∧ xs.length = n * 3 ∧ wr.ownsRow W2.heap.size 28 3 v n xs ∧ Below W2.heap.size W2 wr
theorem swapZ_err (l b : List Prt) (i n : Int) (h : (swapZ l i n b).2 ≠ 0) : (swapZ l i n b).1 = [] := by
  unfold swapZ at h ⊢
  by_cases hw : wellB l = true
  · rw [if_pos hw] at h ⊢
    cases hk : rowsB b with
    | none => rfl
    | some ks =>
      rw [hk] at h
      simp only [] at h ⊢
      by_cases hc : 0 ≤ i ∧ i < l.length ∧ 0 ≤ n ∧ (i = 0 → n = 1 ∧ ks.length = 1)
      · rw [if_pos hc] at h ⊢
        by_cases h0 : i = 0
        · rw [if_pos h0] at h; exact absurd rfl h
        · rw [if_neg h0] at h ⊢
          cases ht : toZ l (endB l (upI l i.toNat i.toNat).toNat) n.toNat i.toNat with
          | none => rfl
          | some tq => rw [ht] at h; exact absurd rfl h
      · rw [if_neg hc]
  · rw [if_neg hw]
set_option maxRecDepth 100000 in
set_option maxHeartbeats 8000000 in
theorem TermFresh_walk (w : World) (v : Value) (l : List Prt) (hr : PartRow w v l) (hs : Small l) (vb : Value) (b : List Prt) (hrb : PartRow w vb b) (hsb : Small b) (hH : Held w) :
    Calls Tryz.prog 9 #[v, vb] w (Answers w) := by
  have HQ : RowKit.Hid (∀ w', Below w.heap.size w w' → Answers w (.returned (.bool true)) w') := Lib.hid fun w' h => Answers.mk h
  generalize Answers w = Q at *
  have hl := hs.1
  have hlb := hsb.1
  have HH := Lib.hid hH
  have CF := Lib.hid (fun w' (hb : Below w.heap.size w w') => fixed11 w' (hH.below hb))
  have HR := Lib.hid hr
  have HRB := Lib.hid hrb
  have HS := Lib.hid hs
  obtain ⟨va, vcap, rfl, hvc⟩ := hr.slice
  obtain ⟨ba, bcap, rfl, hbc⟩ := hrb.slice
  clear hr hs hH hrb hsb
  by_cases h1 : 300 < l.length
  · have h1' : (300 : Int) < l.length := by omega
    go_enter Tryz.func9, Tryz.ntmps9
    go_wp2_with fail
    refine (CF.out _ (Below.refl _ _)).mono ?_
    rintro e w4 ⟨rfl, hb4⟩
    have HX := Lib.hid (HQ.out w4 hb4)
    clear hb4
    go_wp2_with fail
    exact HX.out
  by_cases h2 : 300 < b.length
  · have h1' : ¬ (300 : Int) < l.length := by omega
    have h2' : (300 : Int) < b.length := by omega
    go_enter Tryz.func9, Tryz.ntmps9
    go_wp2_with fail
    refine (CF.out _ (Below.refl _ _)).mono ?_
    rintro e w4 ⟨rfl, hb4⟩
    have HX := Lib.hid (HQ.out w4 hb4)
    clear hb4
    go_wp2_with fail
    exact HX.out
  have h1' : ¬ (300 : Int) < l.length := by omega
  have h2' : ¬ (300 : Int) < b.length := by omega
  obtain ⟨wa, v1, w1, g, c, w2, r0, r1, r2, hb2, ho2⟩ := fresh_row w (.slice va l.length vcap) l HR.out (by omega)
  obtain ⟨wb, v3, w3, g3, c3, w4, s0, s1, s2, hb4, ho4⟩ := fresh_row w2 (.slice ba b.length bcap) b (HRB.out.below hb2) (by omega)
  have HB2 := Lib.hid hb2
  have HB4 := Lib.hid (bthen hb2 hb4)
  have HO2 := Lib.hid (owns_below ho2 hb4)
  have HO4 := Lib.hid ho4
  have HRA4 := Lib.hid (ask_row HO2.out)
  have HRB4 := Lib.hid (ask_row ho4)
  have C1 := Lib.hid (term_Swap l (by omega) (.slice (some ⟨g, 0, none⟩) l.length c) 0 1 b (by omega) (.slice (some ⟨g3, 0, none⟩) b.length c3) w4.drew (HRA4.out.below (Below.refl _ _).drew) (HRB4.out.below (Below.refl _ _).drew))
  have HBd : RowKit.Hid (Below w4.heap.size w4 w4.drew) := Lib.hid (Below.refl _ _).drew
  have HZE := Lib.hid (swapZ_err l b 0 1)
  generalize hzz : swapZ l 0 1 b = z at *
  have HZZ := Lib.hid hzz
  clear hzz
  have hlc : l.length + 1 ≤ c := by
    obtain ⟨_, a, cap, e, h, _⟩ := Row.of_owns ho2
    simp only [Value.slice.injEq] at e
    omega
  have hbc3 : b.length + 1 ≤ c3 := by
    obtain ⟨_, a, cap, e, h, _⟩ := Row.of_owns ho4
    simp only [Value.slice.injEq] at e
    omega
  have hlci : (l.length : Int) ≤ (c : Int) := by omega
  have hlci1 : (l.length : Int) ≤ (l.length : Int) + 1 := by omega
  have hbci : (b.length : Int) ≤ (c3 : Int) := by omega
  have hl0 : (0 : Int) ≤ l.length := by omega
  have hb0 : (0 : Int) ≤ b.length := by omega
  clear hb2 ho2 hb4 ho4
  have R1 := Lib.hid r1
  have R2 := Lib.hid r2
  have S1 := Lib.hid s1
  have S2 := Lib.hid s2
  clear r1 r2 s1 s2
  go_enter Tryz.func9, Tryz.ntmps9
  go_upto_region 4 with (at_builtin; first | (refine wpList_append_run rfl _ _ _ _ R1.out rfl rfl rfl rfl ?_) | (refine wpList_append_run rfl _ _ _ _ R2.out rfl rfl rfl rfl ?_))
  go_upto_region 5 with (at_builtin; first | (refine wpList_append_run rfl _ _ _ _ S1.out rfl rfl rfl rfl ?_) | (refine wpList_append_run rfl _ _ _ _ S2.out rfl rfl rfl rfl ?_))
  clear r0 s0
  go_region_held3 (fun W' => RowKit.Hid (Below w4.heap.size w4 W')) (first | exact HBd | exact Lib.hid (bthen HBd.out hb5)) ((go_at_call 22; (with_reducible refine C1.out.mono ?_); (intro e w5 h; unfold swapPost at h; obtain ⟨v5, rfl, hb5, ho5⟩ := h); (try dsimp only)))
  all_goals
    have HB5 := Lib.hid (bthen HBd.out hb5)
    have HO5 := Lib.hid ho5
    clear hb5 ho5 C1
    obtain ⟨a5, n5, c5, rfl⟩ := owns_slice HO5.out
    obtain rfl : n5 = z.1.length := by
      obtain ⟨_, _, _, e, _⟩ := Row.of_owns HO5.out
      simp only [Value.slice.injEq] at e
      exact e.2.1
    have HL := Lib.hid (show z.1.length ≤ 1000000000 by rw [← HZZ.out]; have := swapZ_len l b 0 1; omega)
    have HAT : RowKit.Hid (frRel w4 z.1.length (.slice a5 z.1.length c5) (.int .i64 0) w5) := Lib.hid ⟨0, partsV z.1, rfl, Nat.zero_le _, by rw [partsV_length], HO5.out, HB5.out⟩
    obtain ⟨N, hN⟩ : ∃ N, z.1.length = N := ⟨_, rfl⟩
    have HN := Lib.hid hN
    rw [hN] at HL HAT HO5
    rw [hN]
    clear hN
    have hNl := HL.out
    go_wp2_with fail
    go_loopw [9] (fun i wr => frRel w4 N (.slice a5 N c5) i wr) (fun i _ => N - (intOf i).toNat)
    case atStart => exact HAT.out
    case round =>
      obtain ⟨k, xs, rfl, hk, hxs, ho, hb⟩ := hrel
      by_cases hlt : k < N
      · have hlti : (k : Int) < N := by omega
        have hk0 : (0 : Int) ≤ k := by omega
        have hwk : IntKind.i64.wrap ((k : Int) + 1) = ((k + 1 : Nat) : Int) := by rw [IntKind.wrap_i64]; omega
        obtain ⟨ga, rfl⟩ := ownsRow_some ho (by omega)
        have HO := Lib.hid ho
        have HB := Lib.hid hb
        obtain ⟨y0, hy0⟩ : ∃ y, wr.cell? ⟨ga, k * 3, none⟩ = some y := ⟨xs[k * 3]'(by omega), by rw [ho.cellAt _ (by omega)]; exact List.getElem?_eq_getElem _⟩
        obtain ⟨y1, hy1⟩ : ∃ y, wr.cell? ⟨ga, k * 3 + 1, none⟩ = some y := ⟨xs[k * 3 + 1]'(by omega), by rw [ho.cellAt _ (by omega)]; exact List.getElem?_eq_getElem _⟩
        obtain ⟨y2, hy2⟩ : ∃ y, wr.cell? ⟨ga, k * 3 + 2, none⟩ = some y := ⟨xs[k * 3 + 2]'(by omega), by rw [ho.cellAt _ (by omega)]; exact List.getElem?_eq_getElem _⟩
        have hfz : ∀ o, wr.frozen? ⟨ga, o, none⟩ = false := fun o => by
          rcases ho.2 with ⟨hv, _⟩ | ⟨g', cap', cur, hv, _, hh, _⟩
          · cases hv
          · simp only [Value.slice.injEq, Option.some.injEq, Addr.mk.injEq, and_true, true_and] at hv
            obtain ⟨rfl, rfl⟩ := hv
            simp [World.frozen?, hh]
        have z0 := hfz (k * 3)
        have z1 := hfz (k * 3 + 1)
        have z2 := hfz (k * 3 + 2)
        clear ho hb hfz
        have ho1 := owns_set (owns_set (owns_set HO.out (k * 3) (by omega) (.int .u8 0)) (k * 3 + 1) (by rw [List.length_set]; omega) (.int .i64 0)) (k * 3 + 2) (by rw [List.length_set, List.length_set]; omega) (.string ⟨#[33]⟩)
        have hga : w4.heap.size ≤ ga := by
          rcases HO.out.2 with ⟨hv, _⟩ | ⟨g', cap', cur, hv, hg, _⟩
          · cases hv
          · simp only [Value.slice.injEq, Option.some.injEq, Addr.mk.injEq, and_true, true_and] at hv
            omega
        have hb1 := ((HB.out.setCell (p := ⟨ga, k * 3, none⟩) hga (.int .u8 0)).setCell (p := ⟨ga, k * 3 + 1, none⟩) hga (.int .i64 0)).setCell (p := ⟨ga, k * 3 + 2, none⟩) hga (.string ⟨#[33]⟩)
        have HNX : RowKit.Hid (frRel w4 N (.slice (some ⟨ga, 0, none⟩) N c5) (.int .i64 ((k : Int) + 1)) _) := Lib.hid ⟨k + 1, _, by go_num, by omega, by rw [List.length_set, List.length_set, List.length_set]; exact hxs, ho1, hb1⟩
        clear ho1 hb1 hga
        go_wp2_with fail
        exact ⟨HNX.out, by simp [intOf]; omega⟩
      · have hlti : ¬ (k : Int) < N := by omega
        have HO := Lib.hid ho
        have HB := Lib.hid hb
        have HBW := Lib.hid (bthen HB4.out hb)
        have HRAr := Lib.hid (HRA4.out.below hb)
        have HRBr := Lib.hid (HRB4.out.below hb)
        have HHr := Lib.hid (HH.out.below HBW.out)
        have CSh := Lib.hid (term_Show l (by omega) HS.out.two (.slice (some ⟨g, 0, none⟩) l.length c) wr HHr.out.P HRAr.out)
        have hN0 : z.2 ≠ 0 → N = 0 := fun h => by rw [← HN.out, HZE.out h]; rfl
        have HN0 := Lib.hid hN0
        clear ho hb hN0 R1 R2 S1 S2
        go_wp2_with fail
        refine CSh.out.mono ?_
        intro e w6 h
        unfold showPost at h
        obtain ⟨rfl, hb6⟩ := h
        have HB6 := Lib.hid (bthen HB.out hb6)
        have HBW6 := Lib.hid (bthen HBW.out hb6)
        have HRA6 := Lib.hid (HRAr.out.below hb6)
        have HRB6 := Lib.hid (HRBr.out.below hb6)
        have CK := Lib.hid (term_Kids l (by omega) (.slice (some ⟨g, 0, none⟩) l.length c) 0 w6 HRA6.out)
        clear hb6 CSh HRAr HRBr HHr HBW HB
        go_wp2_with fail
        refine CK.out.mono ?_
        intro e w7 h
        unfold kidsPost at h
        obtain ⟨v7, rfl, hb7, _⟩ := h
        have HB7 := Lib.hid (bthen HB6.out hb7)
        have HBW7 := Lib.hid (bthen HBW6.out hb7)
        have HRA7 := Lib.hid (HRA6.out.below hb7)
        have HRB7 := Lib.hid (HRB6.out.below hb7)
        have CF7 := Lib.hid (CF.out w7 HBW7.out)
        clear hb7 CK HRA6 HRB6 HBW6 HB6
        go_wp2_with fail
        refine CF7.out.mono ?_
        rintro e w8 ⟨rfl, hb8⟩
        have HB8 := Lib.hid (bthen HB7.out hb8)
        have HBW8 := Lib.hid (bthen HBW7.out hb8)
        have HRA8 := Lib.hid (HRA7.out.below hb8)
        have HRB8 := Lib.hid (HRB7.out.below hb8)
        clear hb8 CF7 HRA7 HRB7 HBW7 HB7
        have CS1 := Lib.hid (ref_Same11 (.slice (some ⟨g, 0, none⟩) l.length c) (.slice va l.length vcap) l l (by omega) (by omega) w8 HRA8.out (HR.out.below HBW8.out))
        have CS2 := Lib.hid (fun w9 (hb : Below w8.heap.size w8 w9) => ref_Same11 (.slice (some ⟨g3, 0, none⟩) b.length c3) (.slice ba b.length bcap) b b (by omega) (by omega) w9 (HRB8.out.below hb) (HRB.out.below (bthen HBW8.out hb)))
        have HX := Lib.hid (fun w10 (hb : Below w8.heap.size w8 w10) => HQ.out w10 (bthen HBW8.out hb))
        have HC1 := Lib.hid (fun w10 (hb : Below w8.heap.size w8 w10) => ask_last (owns_below (owns_below HO2.out HB8.out) hb))
        have HC2 := Lib.hid (fun w10 (hb : Below w8.heap.size w8 w10) => ask_last (owns_below (owns_below HO4.out HB8.out) hb))
        have hl1 : (l.length : Int) < (l.length : Int) + 1 := by omega
        have hb1 : (b.length : Int) < (b.length : Int) + 1 := by omega
        have hl2 : l.length < l.length + 1 := by omega
        have hb2 : b.length < b.length + 1 := by omega
        clear HRA8 HRB8 HB8 HBW8 HO2 HO4 HR HRB CF HH HS HO
        have hor : ((z.2 == 0) = true) ∨ ((z.2 == 0) = false ∧ ((N : Int) == 0) = true) := by
          by_cases h : z.2 = 0
          · left; rw [beq_iff_eq]; exact h
          · right; exact ⟨by rw [beq_eq_false_iff_ne]; exact h, by rw [beq_iff_eq, HN0.out h]; rfl⟩
        clear HN0 HZE HN HL HAT HZZ HB5 HO5
        rcases hor with f1 | ⟨f1, f2⟩
        all_goals
          go_wp2_with fail
          refine CS1.out.mono ?_
          rintro e w9 ⟨x1, rfl, hx1, hb9⟩
          obtain rfl : x1 = true := hx1.mpr rfl
          have CS3 := Lib.hid (CS2.out w9 hb9)
          have HB9 := Lib.hid hb9
          clear hb9 hx1
          go_wp2_with fail
          refine CS3.out.mono ?_
          rintro e w10 ⟨x2, rfl, hx2, hb10⟩
          obtain rfl : x2 = true := hx2.mpr rfl
          have HY := Lib.hid (HX.out w10 (bthen HB9.out hb10))
          have c1 := HC1.out w10 (bthen HB9.out hb10)
          have c2 := HC2.out w10 (bthen HB9.out hb10)
          clear hb10 hx2
          go_wp2_with fail
          exact HY.out
end Go.Proofs.YtpjglenogifclaaGreatDoor
