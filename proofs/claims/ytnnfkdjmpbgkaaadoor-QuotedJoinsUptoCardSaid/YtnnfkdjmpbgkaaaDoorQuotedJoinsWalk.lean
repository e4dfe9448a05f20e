/- The statement QuotedJoins, walked: the call returns true. -/
import Derived.Test.YtnnfkdjmpbgkaaaDoorLaw06
import Derived.Test.YtnnfkdjmpbgkaaaDoorQuotedL4
namespace Go.Proofs.YtnnfkdjmpbgkaaaDoor
set_option linter.all false
open Go.RowKit
attribute [local irreducible] wpStill
theorem value_err (s : ByteArray) : (value s).2 = 0 ∨ (value s).2 = 4 := by
  unfold value
  split
  · exact Or.inl rfl
  · exact Or.inr rfl
theorem value_size {s v : ByteArray} (h : value s = (v, 0)) : 1 ≤ s.size := by
  obtain ⟨k, hk⟩ := value_ok h
  have := (begun_ok hk).2.1
  omega
theorem body_len (s : ByteArray) (i e : Nat) (l : List Int) (h : body s i = some (e, l)) : l.length ≤ 4 * (e - i) := by
  by_cases hi : i < s.size
  · by_cases hc : bt s i = 34
    · rw [body_mark hi hc] at h; cases h; simp
    · rw [body_item hi hc] at h
      cases hit : item s i 34 with
      | none => rw [hit] at h; cases h
      | some q =>
        obtain ⟨n, l1⟩ := q
        have hp := item_pos hi hit
        have hl := item_len hit
        rw [hit, Option.bind_some] at h
        cases hb : body s (i + n) with
        | none => rw [hb] at h; cases h
        | some p =>
          obtain ⟨e2, l2⟩ := p
          rw [hb] at h
          have := body_len s (i + n) e2 l2 hb
          have g := body_lim s (i + n) e2 l2 hb
          simp only [Option.map_some, Option.some.injEq, Prod.mk.injEq] at h
          obtain ⟨rfl, rfl⟩ := h
          rw [List.length_append]
          omega
  · rw [body_end hi] at h; cases h
termination_by s.size - i
decreasing_by omega
theorem value_len {s v : ByteArray} (h : value s = (v, 0)) (hm : bt s 0 = 34) : v.size ≤ 4 * s.size := by
  obtain ⟨h1, l, hb, rfl⟩ := value_body h hm
  have := body_len s 1 _ l hb
  rw [strOfNums_size]
  omega
theorem n34 : ∀ c : Nat, c ≠ 34 → ((c : Int) == 34) = false := fun c h => by rw [beq_eq_false_iff_ne]; omega
set_option maxRecDepth 100000 in
set_option maxHeartbeats 4000000 in
theorem QuotedJoins_walk (a : ByteArray) (ha : a.size ≤ 1048576) (b : ByteArray) (hb : b.size ≤ 1048576) (w : World) (hT : Tabs w) (hM : MaxC w) :
    Calls Tryd.prog 6 #[.string a, .string b] w fun e w' => e = .returned (.bool true) ∧ Below w.heap.size w w' := by
  have HQ : RowKit.Hid (∀ w', Below w.heap.size w w' → (fun (e : Ending) w' => e = .returned (.bool true) ∧ Below w.heap.size w w') (.returned (.bool true)) w') := Lib.hid fun w' h => ⟨rfl, h⟩
  generalize (fun (e : Ending) w' => e = .returned (.bool true) ∧ Below w.heap.size w w') = Q at *
  have C4 := Lib.hid (fun w' (hb : Below w.heap.size w w') => law06_fixed w' (hT.below hb) (hM.below hb))
  have CA := Lib.hid (quoted_Value a w hT hM (by omega))
  have CB := Lib.hid (fun w' (hb' : Below w.heap.size w w') => quoted_Value b w' (hT.below hb') (hM.below hb') (by omega))
  have hzs : (a.extract 0 (a.size - 1) ++ b.extract 1 b.size).size ≤ 2147483647 := by rw [ByteArray.size_append, ByteArray.size_extract, ByteArray.size_extract]; omega
  have CX := Lib.hid (fun w' (hb' : Below w.heap.size w w') => quoted_Value (a.extract 0 (a.size - 1) ++ b.extract 1 b.size) w' (hT.below hb') (hM.below hb') hzs)
  have HJ := Lib.hid (value_joins a b)
  have ea4 := value_err a
  have eb4 := value_err b
  have za := fun v => @value_size a v
  have zb := fun v => @value_size b v
  have HLA := Lib.hid (fun v => @value_len a v)
  have HLB := Lib.hid (fun v => @value_len b v)
  have HZA := Lib.hid za
  have HZB := Lib.hid zb
  clear hzs za zb
  go_enter Tryd.func6, Tryd.ntmps6
  go_wp2_with fail
  refine CA.out.mono ?_
  intro e w1 h1
  unfold valuePost at h1
  obtain ⟨rfl, hb1⟩ := h1
  have HB1 := Lib.hid hb1
  clear hb1
  go_wp2_with fail
  refine (CB.out _ HB1.out).mono ?_
  intro e w2 h2
  unfold valuePost at h2
  obtain ⟨rfl, hb2⟩ := h2
  have HB2 := Lib.hid (bthen HB1.out hb2)
  clear hb2
  generalize hva : value a = qa at *
  obtain ⟨va, fa⟩ := qa
  generalize hvb : value b = qb at *
  obtain ⟨vb, fb⟩ := qb
  have HVA := Lib.hid hva
  have HVB := Lib.hid hvb
  clear hva hvb
  simp only [] at ea4 eb4
  have key : (fa = 0 ∧ fb = 0) ∨ (fa = 0 ∧ fb = 4) ∨ fa = 4 := by omega
  clear ea4 eb4
  rcases key with ⟨rfl, rfl⟩ | ⟨rfl, rfl⟩ | rfl
  · have za := HZA.out _ rfl
    have zb := HZB.out _ rfl
    have za' : (0 : Int) < a.size := by omega
    have zb' : (0 : Int) < b.size := by omega
    have ya : ∀ h, ((a[0]'h).toNat : Int) = (bt a 0 : Int) := fun h => by rw [bt_at a 0 h]
    have yb : ∀ h, ((b[0]'h).toNat : Int) = (bt b 0 : Int) := fun h => by rw [bt_at b 0 h]
    have HJ2 := Lib.hid (HJ.out va vb rfl rfl)
    clear HJ HVA HVB HZA HZB
    generalize bt a 0 = c at *
    generalize bt b 0 = d at *
    by_cases hc : c = 34
    · by_cases hd : d = 34
      · subst hc; subst hd
        have hj := HJ2.out rfl rfl
        have hla := HLA.out _ rfl rfl
        have hlb := HLB.out _ rfl rfl
        have hd1 : ¬ 9223372036854775807 < va.size + vb.size := by omega
        have hd3 : va.size + vb.size ≤ 9223372036854775807 := by omega
        clear HLA HLB
        have CY : RowKit.Hid (∀ w', Below w.heap.size w w' → Calls Tryd.prog 13 #[.string (a.extract 0 (a.size - 1) ++ b.extract 1 b.size)] w' fun e w'' => e = .returned (.tuple #[.string (va ++ vb), .int .i64 0]) ∧ Below w'.heap.size w' w'') := Lib.hid fun w' hb' => (CX.out w' hb').mono fun e w'' h => by
          unfold valuePost at h
          rw [hj] at h
          exact h
        clear hj HJ2 CX CA CB
        go_wp2_with fail
        refine (C4.out _ HB2.out).mono ?_
        rintro e w3 ⟨rfl, hb3⟩
        have HB3 := Lib.hid (bthen HB2.out hb3)
        clear hb3
        go_wp2_with fail
        have hwa : IntKind.i64.wrap ((a.size : Int) - 1) = ((a.size - 1 : Nat) : Int) := by rw [IntKind.wrap_i64]; omega
        have hs1 : ∀ w, (Instr.slice 9 (.string a) none (some (.int .i64 ((a.size - 1 : Nat) : Int))) none).run Tryd.prog w = .ok (.string (a.extract 0 (a.size - 1))) w := fun w => by
          rw [run_slice_string_to_if _ _ a _ _ Tryd.underlying9, if_pos ⟨by omega, by omega⟩, Int.toNat_natCast]
        have hs2 : ∀ w, (Instr.slice 9 (.string b) (some (.int .i64 1)) none none).run Tryd.prog w = .ok (.string (b.extract 1 b.size)) w := fun w => by
          rw [run_slice_string_from_if _ _ b _ _ Tryd.underlying9, if_pos ⟨by omega, by omega⟩]; rfl
        have k1 : (a.extract 0 (a.size - 1)).size ≤ 1048576 := by rw [ByteArray.size_extract]; omega
        have k2 : (b.extract 1 b.size).size ≤ 1048576 := by rw [ByteArray.size_extract]; omega
        generalize a.extract 0 (a.size - 1) = x at *
        generalize b.extract 1 b.size = y at *
        have hc1 : ¬ 9223372036854775807 < x.size + y.size := by omega
        have hc3 : x.size + y.size ≤ 9223372036854775807 := by omega
        go_region_law (first | (go_simp; go_at_call 13; refine (CY.out _ (HB3.out.drew)).mono ?_; rintro e w4 ⟨rfl, hb4⟩))
        all_goals (
          have HB4 := Lib.hid (bthen HB3.out.drew hb4)
          clear hb4
          go_wp2_with fail
          show Q (.returned (.bool _)) _
          exact HQ.out _ HB4.out)
      · have nd := n34 d hd
        have hd' : ¬ (d : Int) = 34 := by omega
        subst hc
        clear HJ2 HLA HLB CX CA CB
        go_wp2_with fail
        refine (C4.out _ HB2.out).mono ?_
        rintro e w3 ⟨rfl, hb3⟩
        have HB3 := Lib.hid (bthen HB2.out hb3)
        clear hb3
        go_wp2_with fail
        refine (C4.out _ HB3.out).mono ?_
        rintro e w4 ⟨rfl, hb4⟩
        have HB4 := Lib.hid (bthen HB3.out hb4)
        clear hb4
        go_wp2_with fail
        show Q (.returned (.bool _)) _
        exact HQ.out _ HB4.out
    · have nc := n34 c hc
      have hc' : ¬ (c : Int) = 34 := by omega
      clear HJ2 HLA HLB CX CA CB
      go_wp2_with fail
      refine (C4.out _ HB2.out).mono ?_
      rintro e w3 ⟨rfl, hb3⟩
      have HB3 := Lib.hid (bthen HB2.out hb3)
      clear hb3
      go_wp2_with fail
      refine (C4.out _ HB3.out).mono ?_
      rintro e w4 ⟨rfl, hb4⟩
      have HB4 := Lib.hid (bthen HB3.out hb4)
      clear hb4
      go_wp2_with fail
      show Q (.returned (.bool _)) _
      exact HQ.out _ HB4.out
  all_goals (
    clear CX CA CB HJ HLA HLB HZA HZB HVA HVB
    go_wp2_with fail
    refine (C4.out _ HB2.out).mono ?_
    rintro e w3 ⟨rfl, hb3⟩
    have HB3 := Lib.hid (bthen HB2.out hb3)
    clear hb3
    go_wp2_with fail
    refine (C4.out _ HB3.out).mono ?_
    rintro e w4 ⟨rfl, hb4⟩
    have HB4 := Lib.hid (bthen HB3.out hb4)
    clear hb4
    go_wp2_with fail
    show Q (.returned (.bool _)) _
    exact HQ.out _ HB4.out)
end Go.Proofs.YtnnfkdjmpbgkaaaDoor
