/- Layer 9: the program's functions, walked: Of, Depth. -/
import Derived.Test.YtelfobnmiphdnaaDoorNest
import Derived.Deep.QuietTactic
import Derived.BigQuiet
namespace Go.Proofs.YtelfobnmiphdnaaDoor
set_option linter.all false
open Go.RowKit

/-- What Of answers: tokens, partners, an error and a place. -/
@[irreducible] def nofPost (q : List Tok × List Int × Int × Int × Int) (w0 : World) (e : Ending) (w' : World) : Prop :=
  ∃ v1 v2, e = .returned (.tuple #[v1, v2, .agg #[.int .i64 q.2.2.2.1, .int .i64 q.2.2.2.2]]) ∧ Below w0.heap.size w0 w' ∧ TokRow w' v1 q.1 ∧ RowInts w' v2 .i64 q.2.1 ∧ NewV w0.heap.size v1 ∧ NewV w0.heap.size v2
/-- What Depth answers: how many brackets were open, an error and a place. -/
@[irreducible] def depthPost (q : List Tok × List Int × Int × Int × Int) (w0 : World) (e : Ending) (w' : World) : Prop :=
  e = .returned (.tuple #[.int .i64 q.2.2.1, .agg #[.int .i64 q.2.2.2.1, .int .i64 q.2.2.2.2]]) ∧ Below w0.heap.size w0 w'
set_option maxRecDepth 100000 in
set_option maxHeartbeats 4000000 in
theorem nest_Of (s : ByteArray) (hs : s.size ≤ 2147483647) (w : World) (hT : Tabs w) (hM : MaxC w) :
    Calls Tryd.prog 6 #[.string s] w (nofPost (nestAll s) w) := by
  have HQ : RowKit.Hid (∀ w' v1 v2 l p m e a, nestAll s = (l, p, m, e, a) → Below w.heap.size w w' → TokRow w' v1 l → RowInts w' v2 .i64 p → NewV w.heap.size v1 → NewV w.heap.size v2 → nofPost (nestAll s) w (.returned (.tuple #[v1, v2, .agg #[.int .i64 e, .int .i64 a]])) w') := Lib.hid fun w' v1 v2 l p m e a h h2 h3 h4 h5 h6 => by
    unfold nofPost; rw [h]; exact ⟨v1, v2, rfl, h2, h3, h4, h5, h6⟩
  have C1 := Lib.hid (fun w' (hb : Below w.heap.size w w') => nest_walk s hs w' (hT.below hb) (hM.below hb))
  generalize nofPost (nestAll s) w = Q at *
  have HF : RowKit.Hid (∀ (tm : Array Value) W' v1 v2 l p m e a, nestAll s = (l, p, m, e, a) → Below w.heap.size w W' → TokRow W' v1 l → RowInts W' v2 .i64 p → NewV w.heap.size v1 → NewV w.heap.size v2 → FK W' w.heap.size e a → tm.getD 4 undef = .pointer (some ⟨w.heap.size, 0, none⟩) → tm.getD 2 undef = v1 → tm.getD 3 undef = v2 → bodyPost Tryd.prog Tryd.f6 Q .ret ⟨tm, []⟩ W') :=
    Lib.hid fun tm W' v1 v2 l p m e a h1 h2 h3 h4 n1 n2 h5 h6 h7 h8 => by
      refine bodyPost_ret (results_tmp2_cell rfl tm W' w.heap.size 26 #[.int .i64 e, .int .i64 a] (0, 0) _ h6 h5 Tryd.underlying26 rfl (by kernel_rfl)) rfl ?_
      rw [h7, h8]
      exact HQ.out W' v1 v2 l p m e a h1 h2 h3 h4 n1 n2
  have hT4 : FK (w.alloc (.cells #[.int .i64 0, .int .i64 0] 26)) w.heap.size 0 0 := by
    unfold FK; exact heap_alloc_new _ _
  have hbW : Below w.heap.size w (w.alloc (.cells #[.int .i64 0, .int .i64 0] 26)) := (Below.refl _ _).alloc (Nat.le_refl _) _
  have H4 := Lib.hid hT4
  have HBW := Lib.hid hbW
  clear hT4 hbW
  go_enter Tryd.func6, Tryd.ntmps6
  go_wp2_with fail
  refine (C1.out _ HBW.out).mono ?_
  intro e w1 h1
  unfold walkPost at h1
  have HE := Lib.hid (rfl : nestAll s = nestAll s)
  generalize hq : nestAll s = q at h1
  obtain ⟨L, P, m, er, ea⟩ := q
  simp only [] at h1
  obtain ⟨v1, v2, rfl, hb1, hr1, hp1, hn1, hn2⟩ := h1
  have HQQ := Lib.hid hq
  have hA : Below w1.heap.size w1 (w1.alloc (.cells #[.int .i64 er, .int .i64 ea] 26)) := (Below.refl _ _).alloc (Nat.le_refl _) _
  have HA1 := Lib.hid (bthen (bthen HBW.out hb1) hA)
  have HF2 := Lib.hid ((H4.out.keep hb1).alloc (.cells #[.int .i64 er, .int .i64 ea] 26))
  have HX : RowKit.Hid (FK (w1.alloc (.cells #[.int .i64 er, .int .i64 ea] 26)) w1.heap.size er ea) := Lib.hid (by unfold FK; exact heap_alloc_new _ _)
  have HR1 := Lib.hid (hr1.below hA)
  have HP1 := Lib.hid (hp1.below hA)
  have HN1 := Lib.hid (hn1.mono (show w.heap.size + 1 ≤ (w.alloc (.cells #[.int .i64 0, .int .i64 0] 26)).heap.size by simp))
  have HN2 := Lib.hid (hn2.mono (show w.heap.size + 1 ≤ (w.alloc (.cells #[.int .i64 0, .int .i64 0] 26)).heap.size by simp))
  obtain ⟨va, vcap, rfl, _, _⟩ := hr1
  obtain ⟨pa, pcap, rfl, _, _⟩ := hp1.open'
  clear hb1 hq hp1 hA C1 H4 HBW hn1 hn2
  have x0 := HX.out.c0; have x1 := HX.out.c1
  have z50 := HF2.out.fz 0; have z51 := HF2.out.fz 1; have c50 := HF2.out.c0; have c51 := HF2.out.c1
  go_wp2_with fail
  generalize w1.alloc (.cells #[.int .i64 er, .int .i64 ea] 26) = W0 at *
  go_region
  all_goals
    go_wp2_with fail
    exact HF.out _ _ _ _ L P m er ea HQQ.out ((below_fill2 HA1.out (Nat.le_refl _) _ _).drew) (((HR1.out.setCell (HN1.out.ne (by simp)) _).setCell (HN1.out.ne (by simp)) _).below (Below.refl _ _).drew) (((HP1.out.setCell (HN2.out.ne (by simp)) _).setCell (HN2.out.ne (by simp)) _).below (Below.refl _ _).drew) (HN1.out.mono (by omega)) (HN2.out.mono (by omega)) (HF2.out.fill _ _) rfl rfl rfl
set_option maxRecDepth 100000 in
set_option maxHeartbeats 4000000 in
theorem nest_Depth (s : ByteArray) (hs : s.size ≤ 2147483647) (w : World) (hT : Tabs w) (hM : MaxC w) :
    Calls Tryd.prog 8 #[.string s] w (depthPost (nestAll s) w) := by
  have HQ : RowKit.Hid (∀ w' l p m e a, nestAll s = (l, p, m, e, a) → Below w.heap.size w w' → depthPost (nestAll s) w (.returned (.tuple #[.int .i64 m, .agg #[.int .i64 e, .int .i64 a]])) w') := Lib.hid fun w' l p m e a h h2 => by
    unfold depthPost; rw [h]; exact ⟨rfl, h2⟩
  have C1 := Lib.hid (fun w' (hb : Below w.heap.size w w') => nest_walk s hs w' (hT.below hb) (hM.below hb))
  generalize depthPost (nestAll s) w = Q at *
  have HF : RowKit.Hid (∀ (tm : Array Value) W' l p m e a, nestAll s = (l, p, m, e, a) → Below w.heap.size w W' → FK W' w.heap.size e a → tm.getD 3 undef = .pointer (some ⟨w.heap.size, 0, none⟩) → tm.getD 2 undef = .int .i64 m → bodyPost Tryd.prog Tryd.f8 Q .ret ⟨tm, []⟩ W') :=
    Lib.hid fun tm W' l p m e a h1 h2 h5 h6 h7 => by
      refine bodyPost_ret (results_tmp_cell rfl tm W' w.heap.size 26 #[.int .i64 e, .int .i64 a] (0, 0) _ h6 h5 Tryd.underlying26 rfl (by kernel_rfl)) rfl ?_
      rw [h7]
      exact HQ.out W' l p m e a h1 h2
  have hT4 : FK (w.alloc (.cells #[.int .i64 0, .int .i64 0] 26)) w.heap.size 0 0 := by
    unfold FK; exact heap_alloc_new _ _
  have hbW : Below w.heap.size w (w.alloc (.cells #[.int .i64 0, .int .i64 0] 26)) := (Below.refl _ _).alloc (Nat.le_refl _) _
  have H4 := Lib.hid hT4
  have HBW := Lib.hid hbW
  clear hT4 hbW
  go_enter Tryd.func8, Tryd.ntmps8
  go_wp2_with fail
  refine (C1.out _ HBW.out).mono ?_
  intro e w1 h1
  unfold walkPost at h1
  generalize hq : nestAll s = q at h1
  obtain ⟨L, P, m, er, ea⟩ := q
  simp only [] at h1
  obtain ⟨v1, v2, rfl, hb1, hr1, hp1, hn1, hn2⟩ := h1
  have HQQ := Lib.hid hq
  have hA : Below w1.heap.size w1 (w1.alloc (.cells #[.int .i64 er, .int .i64 ea] 26)) := (Below.refl _ _).alloc (Nat.le_refl _) _
  have HA1 := Lib.hid (bthen (bthen HBW.out hb1) hA)
  have HF2 := Lib.hid ((H4.out.keep hb1).alloc (.cells #[.int .i64 er, .int .i64 ea] 26))
  have HX : RowKit.Hid (FK (w1.alloc (.cells #[.int .i64 er, .int .i64 ea] 26)) w1.heap.size er ea) := Lib.hid (by unfold FK; exact heap_alloc_new _ _)
  obtain ⟨va, vcap, rfl, _, _⟩ := hr1
  obtain ⟨pa, pcap, rfl, _, _⟩ := hp1.open'
  clear hb1 hq hp1 hA C1 H4 HBW hn1 hn2
  have x0 := HX.out.c0; have x1 := HX.out.c1
  have z50 := HF2.out.fz 0; have z51 := HF2.out.fz 1; have c50 := HF2.out.c0; have c51 := HF2.out.c1
  go_wp2_with fail
  generalize w1.alloc (.cells #[.int .i64 er, .int .i64 ea] 26) = W0 at *
  go_region
  all_goals
    go_wp2_with fail
    exact HF.out _ _ L P m er ea HQQ.out ((below_fill2 HA1.out (Nat.le_refl _) _ _).drew) (HF2.out.fill _ _) rfl rfl
/-- What holds at the loop's head. -/
def intsRel (a b : List Int) (w : World) (i : Value) (wr : World) : Prop := ∃ k : Nat, i = .int .i64 (k : Int) ∧ k ≤ a.length ∧ a.take k = b.take k ∧ Below w.heap.size w wr
set_option maxRecDepth 100000 in
set_option maxHeartbeats 4000000 in
theorem ref_Ints (v1 v2 : Value) (a b : List Int) (hla : a.length ≤ 1000000000) (hlb2 : b.length ≤ 1000000000) (w : World) (hr1 : RowInts w v1 .i64 a) (hr2 : RowInts w v2 .i64 b) :
    Calls Tryd.prog 11 #[v1, v2] w fun e w' => e = .returned (.bool (decide (a = b))) ∧ Below w.heap.size w w' := by
  have HQ : RowKit.Hid (∀ x w', decide (a = b) = x → Below w.heap.size w w' → (fun (e : Ending) w' => e = .returned (.bool (decide (a = b))) ∧ Below w.heap.size w w') (.returned (.bool x)) w') := Lib.hid fun x w' h h2 => ⟨by rw [h], h2⟩
  generalize (fun (e : Ending) w' => e = .returned (.bool (decide (a = b))) ∧ Below w.heap.size w w') = Q at *
  have HR1 := Lib.hid hr1
  have HR2 := Lib.hid hr2
  obtain ⟨a1, cap1, rfl, hcap1, _⟩ := hr1.open'
  obtain ⟨a2, cap2, rfl, hcap2, _⟩ := hr2.open'
  clear hr1 hr2
  go_enter Tryd.func11, Tryd.ntmps11
  by_cases hl : a.length = b.length
  · have hlb : ((a.length : Int) == (b.length : Int)) = true := by rw [beq_iff_eq]; omega
    have hlc : ((a.length : Int) != (b.length : Int)) = false := by rw [bne_eq_false_iff_eq]; omega
    have hld : (a.length != b.length) = false := by rw [bne_eq_false_iff_eq]; exact hl
    have HL := Lib.hid hl
    clear hl
    go_wp2_with fail
    go_loopw [5] (fun i wr => intsRel a b w i wr) (fun i _ => a.length - (intOf i).toNat)
    case atStart => exact ⟨0, rfl, Nat.zero_le _, rfl, Below.refl _ _⟩
    case round =>
      obtain ⟨k, rfl, hk, htk, hb⟩ := hrel
      have HB := Lib.hid hb
      have HTK := Lib.hid htk
      clear hb htk
      by_cases hlt : k < a.length
      · have hlt' : (k : Int) < a.length := by omega
        obtain ⟨_, _, hva, _, ha2⟩ := HR1.out.open'
        obtain ⟨_, _, hvb, _, hb2⟩ := HR2.out.open'
        simp only [Value.slice.injEq] at hva hvb
        obtain ⟨rfl, _, rfl⟩ := hva
        obtain ⟨rfl, _, rfl⟩ := hvb
        obtain ⟨b1, o1, rfl, hb1, hc1⟩ := ha2 (by omega)
        obtain ⟨b2, o2, rfl, hb2', hc2⟩ := hb2 (by have := HL.out; omega)
        have hkbb : k < b.length := by have := HL.out; omega
        have d0 : wr.cell? ⟨b1, o1 + k, none⟩ = some (.int .i64 a[k]) := by rw [HB.out.cell (p := ⟨b1, o1 + k, none⟩) hb1]; exact hc1 k hlt
        have d1 : wr.cell? ⟨b2, o2 + k, none⟩ = some (.int .i64 b[k]) := by rw [HB.out.cell (p := ⟨b2, o2 + k, none⟩) hb2']; exact hc2 k hkbb
        have hk0 : (0 : Int) ≤ k := by omega
        have hlt2 : (k : Int) < b.length := by omega
        have hkc1 : (k : Int) < cap1 := by omega
        have hkc2 : (k : Int) < cap2 := by omega
        have hwk : IntKind.i64.wrap ((k : Int) + 1) = ((k + 1 : Nat) : Int) := by rw [IntKind.wrap_i64]; omega
        have HK1 : RowKit.Hid (k + 1 ≤ a.length) := Lib.hid hlt
        have HML : RowKit.Hid (a.length - (k + 1) < a.length - k) := Lib.hid (by omega)
        have hkb : k < b.length := by have := HL.out; omega
        have HX := Lib.hid (fun (h : a[k] = b[k]) => show a.take (k + 1) = b.take (k + 1) by
          rw [List.take_succ_eq_append_getElem hlt, List.take_succ_eq_append_getElem hkb, HTK.out]; exact congrArg (fun z => List.take k b ++ [z]) h)
        have HY := Lib.hid (fun (h : a[k] ≠ b[k]) => show decide (a = b) = false from decide_eq_false (fun e => h (by subst e; rfl)))
        clear hc1 hc2 ha2 hb2
        generalize a[k] = x at *
        generalize b[k] = y at *
        have hE : x = y ∨ x ≠ y := by omega
        rcases hE with hE | hE
        · have HTK1 := Lib.hid (HX.out hE)
          have hEb : (x == y) = true := by rw [beq_iff_eq]; exact hE
          have hEc : (x != y) = false := by rw [bne_eq_false_iff_eq]; exact hE
          subst hE
          go_wp2_with fail
          go_quiet (fail)
          have HB2 := Lib.hid (bdrewN HB.out nq)
          go_wp2_with fail
          have HR : RowKit.Hid (intsRel a b w (.int .i64 ((k + 1 : Nat) : Int)) (wr.drewN nq)) := Lib.hid ⟨k + 1, rfl, HK1.out, HTK1.out, HB2.out⟩
          refine ⟨?_, (by have := HML.out; simp [intOf]; try omega)⟩
          first
            | exact HR.out
            | (repeat apply Exists.intro
               refine ⟨?_, rfl⟩
               exact HR.out)
        · have HF := Lib.hid (HY.out hE)
          have hEb : (x == y) = false := by rw [beq_eq_false_iff_ne]; exact hE
          have hEc : (x != y) = true := by rw [bne_iff_ne]; exact hE
          clear hE
          go_wp2_with fail
          go_quiet (fail)
          have HB2 := Lib.hid (bdrewN HB.out nq)
          go_wp2_with fail
          exact HQ.out _ _ HF.out HB2.out
      · have hlt' : ¬ (k : Int) < a.length := by omega
        have HF : RowKit.Hid (decide (a = b) = true) := Lib.hid (decide_eq_true (by
          have h := HTK.out
          have hl := HL.out
          rw [List.take_of_length_le (by omega), List.take_of_length_le (by omega)] at h
          exact h))
        go_wp2_with fail
        exact HQ.out _ _ HF.out HB.out
  · have hlb : ((a.length : Int) == (b.length : Int)) = false := by rw [beq_eq_false_iff_ne]; omega
    have hlc : ((a.length : Int) != (b.length : Int)) = true := by rw [bne_iff_ne]; omega
    have hld : (a.length != b.length) = true := by rw [bne_iff_ne]; exact hl
    have HF : RowKit.Hid (decide (a = b) = false) := Lib.hid (decide_eq_false (fun e => hl (by rw [e])))
    go_wp2_with fail
    exact HQ.out _ _ HF.out (Below.refl _ _)
end Go.Proofs.YtelfobnmiphdnaaDoor
namespace Go.Proofs.YtelfobnmiphdnaaDoor
set_option linter.all false
attribute [local irreducible] Calls
open Go.RowKit

theorem ints_lit (w : World) (C : Array Value) (l : List Int) (n c : Nat) (h : C = (l.map (Value.int .i64)).toArray) (hn : l.length = n) (hc : n ≤ c) : RowInts (w.alloc (.cells C 3)) (.slice (some ⟨w.heap.size, 0, none⟩) n c) .i64 l := by
  subst hn h
  refine ⟨by simp, _, _, rfl, hc, by simp, fun hp => ⟨w.heap.size, 0, rfl, by simp, fun i hi => ?_⟩⟩
  rw [Nat.zero_add, World.cell?_alloc_at _ _ _ _ rfl]
  simp
theorem ex9_a : nestAll ⟨#[102, 40, 97, 91, 49, 93, 41]⟩ = ([(1, 0, 1), (8, 1, 2), (1, 2, 3), (8, 3, 4), (3, 4, 5), (8, 5, 6), (8, 6, 7), (9, 7, 7)], [-1, 6, -1, 5, -1, 3, 1, -1], 2, 0, 0) := by decide +kernel
theorem ex9_b : nestAll ⟨#[40, 93]⟩ = ([], [], 0, 5, 1) := by decide +kernel
theorem ex9_c : (nestAll ⟨#[97, 40, 98, 41, 123, 99, 91, 49, 93, 125]⟩).2.2 = (2, 0, 0) := by decide +kernel
set_option maxRecDepth 100000 in
set_option maxHeartbeats 4000000 in
theorem law09_fixed (w : World) (hT : Tabs w) (hM : MaxC w) :
    Calls Tryd.prog 7 #[] w fun e w' => e = .returned (.bool true) ∧ Below w.heap.size w w' := by
  have HQ : RowKit.Hid (∀ w', Below w.heap.size w w' → (fun (e : Ending) w' => e = .returned (.bool true) ∧ Below w.heap.size w w') (.returned (.bool true)) w') := Lib.hid fun w' h => ⟨rfl, h⟩
  generalize (fun (e : Ending) w' => e = .returned (.bool true) ∧ Below w.heap.size w w') = Q at *
  have C1 := Lib.hid (nest_Of ⟨#[102, 40, 97, 91, 49, 93, 41]⟩ (by decide) w hT hM)
  have C2 := Lib.hid (fun w' (hb : Below w.heap.size w w') => nest_Of ⟨#[40, 93]⟩ (by decide) w' (hT.below hb) (hM.below hb))
  have C3 := Lib.hid (fun w' (hb : Below w.heap.size w w') => nest_Depth ⟨#[97, 40, 98, 41, 123, 99, 91, 49, 93, 125]⟩ (by decide) w' (hT.below hb) (hM.below hb))
  have CI := Lib.hid (fun v1 v2 w' h1 h2 => ref_Ints v1 v2 [-1, 6, -1, 5, -1, 3, 1, -1] [-1, 6, -1, 5, -1, 3, 1, -1] (by decide) (by decide) w' h1 h2)
  go_enter Tryd.func7, Tryd.ntmps7
  go_wp2_with fail
  refine C1.out.mono ?_
  intro e w1 h1
  unfold nofPost at h1
  rw [ex9_a] at h1
  obtain ⟨v1, p1, rfl, hb1, hr1, hp1, _, _⟩ := h1
  simp only [] at hr1 hp1
  have HB1 := Lib.hid hb1
  have HP1 := Lib.hid hp1
  obtain ⟨va, vcap, rfl, _, _⟩ := hr1
  obtain ⟨pa, pcap, rfl, _, _⟩ := hp1.open'
  have HF1 : RowKit.Hid (FK (w1.alloc (.cells #[.int .i64 0, .int .i64 0] 26)) w1.heap.size 0 0) := Lib.hid (by unfold FK; exact heap_alloc_new _ _)
  have HA1 : RowKit.Hid (Below w1.heap.size w1 (w1.alloc (.cells #[.int .i64 0, .int .i64 0] 26))) := Lib.hid ((Below.refl _ _).alloc (Nat.le_refl _) _)
  clear hb1 hp1 C1
  go_wp2_with fail
  refine (C2.out _ (bthen HB1.out HA1.out)).mono ?_
  intro e w2 h2
  unfold nofPost at h2
  rw [ex9_b] at h2
  obtain ⟨v2, p2, rfl, hb2, hr2, hp2, _, _⟩ := h2
  simp only [] at hr2 hp2
  have HA2 := Lib.hid (bthen HA1.out hb2)
  have HF2 := Lib.hid ((HF1.out.keep hb2).alloc (.cells #[.int .i64 5, .int .i64 1] 26))
  have HG2 : RowKit.Hid (FK (w2.alloc (.cells #[.int .i64 5, .int .i64 1] 26)) w2.heap.size 5 1) := Lib.hid (by unfold FK; exact heap_alloc_new _ _)
  have HA3 : RowKit.Hid (Below w2.heap.size w2 (w2.alloc (.cells #[.int .i64 5, .int .i64 1] 26))) := Lib.hid ((Below.refl _ _).alloc (Nat.le_refl _) _)
  obtain ⟨_, _, rfl, _, _⟩ := hr2
  obtain ⟨_, _, rfl, _, _⟩ := hp2.open'
  clear hb2 hp2 C2 HF1 HA1
  go_wp2_with fail
  refine (C3.out _ (bthen HB1.out (bthen HA2.out HA3.out))).mono ?_
  intro e w3 h3
  unfold depthPost at h3
  rw [show (nestAll ⟨#[97, 40, 98, 41, 123, 99, 91, 49, 93, 125]⟩).2.2.1 = 2 from congrArg Prod.fst ex9_c, show (nestAll ⟨#[97, 40, 98, 41, 123, 99, 91, 49, 93, 125]⟩).2.2.2.1 = 0 from congrArg (fun x => x.2.1) ex9_c, show (nestAll ⟨#[97, 40, 98, 41, 123, 99, 91, 49, 93, 125]⟩).2.2.2.2 = 0 from congrArg (fun x => x.2.2) ex9_c] at h3
  obtain ⟨rfl, hb3⟩ := h3
  have HA4 := Lib.hid (bthen HA2.out (bthen HA3.out hb3))
  have HF3 := Lib.hid ((HF2.out.keep hb3).alloc (.cells #[.int .i64 0, .int .i64 0] 26))
  have HG3 := Lib.hid ((HG2.out.keep hb3).alloc (.cells #[.int .i64 0, .int .i64 0] 26))
  have HK3 : RowKit.Hid (FK (w3.alloc (.cells #[.int .i64 0, .int .i64 0] 26)) w3.heap.size 0 0) := Lib.hid (by unfold FK; exact heap_alloc_new _ _)
  have HB3 := Lib.hid (bthen HB1.out (bthen HA4.out ((Below.refl _ _).alloc (Nat.le_refl _) (.cells #[.int .i64 0, .int .i64 0] 26))))
  have HP3 := Lib.hid (HP1.out.below (bthen HA4.out ((Below.refl _ _).alloc (Nat.le_refl _) (.cells #[.int .i64 0, .int .i64 0] 26))))
  clear hb3 C3 HF2 HG2 HA2 HA3 HA4 HB1 HP1
  have f0 := HF3.out.c0; have f1 := HF3.out.c1
  have g0 := HG3.out.c0; have g1 := HG3.out.c1
  have k0 := HK3.out.c0; have k1 := HK3.out.c1
  go_wp2_with fail
  have hL := ints_lit (w3.alloc (.cells #[.int .i64 0, .int .i64 0] 26)) #[.int .i64 (-1), .int .i64 6, .int .i64 (-1), .int .i64 5, .int .i64 (-1), .int .i64 3, .int .i64 1, .int .i64 (-1)] [-1, 6, -1, 5, -1, 3, 1, -1] 8 8 rfl rfl (Nat.le_refl _)
  rw [show (w3.alloc (.cells #[.int .i64 0, .int .i64 0] 26)).heap.size = w3.heap.size + 1 by simp] at hL
  have hB : Below (w3.alloc (.cells #[.int .i64 0, .int .i64 0] 26)).heap.size (w3.alloc (.cells #[.int .i64 0, .int .i64 0] 26)) ((w3.alloc (.cells #[.int .i64 0, .int .i64 0] 26)).alloc (.cells #[.int .i64 (-1), .int .i64 6, .int .i64 (-1), .int .i64 5, .int .i64 (-1), .int .i64 3, .int .i64 1, .int .i64 (-1)] 3)) := (Below.refl _ _).alloc (Nat.le_refl _) _
  have hP := HP3.out.below hB
  have HB4 := Lib.hid (bthen HB3.out hB)
  have HF4 := Lib.hid (HF3.out.keep hB)
  have HG4 := Lib.hid (HG3.out.keep hB)
  have HK4 := Lib.hid (HK3.out.keep hB)
  clear f0 f1 g0 g1 k0 k1 HF3 HG3 HK3 HB3 hB HP3
  generalize (w3.alloc (.cells #[.int .i64 0, .int .i64 0] 26)).alloc (.cells #[.int .i64 (-1), .int .i64 6, .int .i64 (-1), .int .i64 5, .int .i64 (-1), .int .i64 3, .int .i64 1, .int .i64 (-1)] 3) = W4 at *
  refine (CI.out _ _ _ hP hL).mono ?_
  rintro e w4 ⟨rfl, hb4⟩
  have HB5 := Lib.hid (bthen HB4.out hb4)
  have HF5 := Lib.hid (HF4.out.keep hb4)
  have HG5 := Lib.hid (HG4.out.keep hb4)
  have HK5 := Lib.hid (HK4.out.keep hb4)
  have f0 := HF5.out.c0; have f1 := HF5.out.c1
  have g0 := HG5.out.c0; have g1 := HG5.out.c1
  have k0 := HK5.out.c0; have k1 := HK5.out.c1
  clear hb4 hP hL
  go_wp2_with fail
  show Q (.returned (.bool true)) _
  exact HQ.out _ HB5.out
end Go.Proofs.YtelfobnmiphdnaaDoor
