/- Layer 5: the document's Run and Scan, walked. -/
import Derived.Test.YtelfobnmiphdnaaGreatDoorRef05
namespace Go.Proofs.YtelfobnmiphdnaaGreatDoor
set_option linter.all false
open Go.RowKit

theorem headed_at (s : ByteArray) (i : Nat) (hi : i ≤ s.size) : headedR 120 88 (byts (s.extract i s.size)) = numHex s i := by
  rw [headed_text]
  have hz : (s.extract i s.size).size = s.size - i := by rw [ByteArray.size_extract]; omega
  unfold numHex
  by_cases h : i + 1 < s.size
  · have e0 : bt (s.extract i s.size) 0 = bt s i := by unfold bt; rw [get!_extract s i s.size 0 (by omega) (Nat.le_refl _)]; rfl
    have e1 : bt (s.extract i s.size) 1 = bt s (i + 1) := by unfold bt; rw [get!_extract s i s.size 1 (by omega) (Nat.le_refl _)]
    rw [hz, e0, e1, decide_eq_true h, decide_eq_true (show 2 ≤ s.size - i by omega)]
    simp only [Bool.true_and]
    rw [Bool.eq_iff_iff]
    simp
  · rw [hz, decide_eq_false h, decide_eq_false (show ¬ 2 ≤ s.size - i by omega)]; rfl
theorem begins_text (s : ByteArray) (i : Nat) (hi : i < s.size) : numBegins s i = (decide (dval (bt s i) < 10) || (decide (bt s i = 46) && (decide (i + 1 < s.size) && decide (dval (bt s (i + 1)) < 10)))) := by
  unfold numBegins; rw [decide_eq_true hi]; rfl
theorem dval_digit {c : Nat} : dval c < 10 ↔ 48 ≤ c ∧ c ≤ 57 := by
  unfold dval
  split
  · omega
  · split
    · omega
    · split
      · omega
      · omega
/-- A byte that always goes on. -/
def alwB (c : Nat) : Prop := (48 ≤ c ∧ c ≤ 57) ∨ (97 ≤ c ∧ c ≤ 122) ∨ (65 ≤ c ∧ c ≤ 90) ∨ c = 95 ∨ c = 46
theorem numCh_alw {s : ByteArray} {a k : Nat} {hex : Bool} (h : alwB (bt s k)) : numCh s a hex k = true := by
  unfold numCh
  rcases h with h | h | h | h | h
  · simp [dval_digit.2 h]
  · simp [h]
  · simp [h]
  · simp [h]
  · simp [h]
theorem numCh_nev {s : ByteArray} {a k : Nat} {hex : Bool} (h : ¬ alwB (bt s k)) : numCh s a hex k = (decide (a < k) && decide (bt s k = 43 ∨ bt s k = 45) && (if hex then decide (bt s (k - 1) = 112 ∨ bt s (k - 1) = 80) else decide (bt s (k - 1) = 101 ∨ bt s (k - 1) = 69))) := by
  unfold alwB at h
  unfold numCh
  have h1 : ¬ dval (bt s k) < 10 := fun g => h (Or.inl (dval_digit.1 g))
  rw [decide_eq_false (show ¬ bt s k = 95 by omega), decide_eq_false (show ¬ bt s k = 46 by omega), decide_eq_false h1, decide_eq_false (show ¬ (97 ≤ bt s k ∧ bt s k ≤ 122) by omega), decide_eq_false (show ¬ (65 ≤ bt s k ∧ bt s k ≤ 90) by omega)]
  rfl
attribute [local irreducible] Calls
set_option maxRecDepth 100000 in
set_option maxHeartbeats 16000000 in
theorem ref_Run (s : ByteArray) (i : Nat) (hi : i < s.size) (hs : s.size ≤ 2147483647) (w : World) :
    Calls Tryz.prog 46 #[.string s, .int .i64 (i : Int)] w fun e w' => e = .returned (.int .i64 ((if numBegins s i then numEnd s i else i : Nat) : Int)) ∧ w = w' := by
  have HQ : RowKit.Hid (∀ r : Nat, (if numBegins s i then numEnd s i else i) = r → (fun (e : Ending) w' => e = .returned (.int .i64 ((if numBegins s i then numEnd s i else i : Nat) : Int)) ∧ w = w') (.returned (.int .i64 (r : Nat))) w) := Lib.hid fun r h => ⟨by rw [h], rfl⟩
  have HB := Lib.hid (begins_text s i hi)
  have CD := Lib.hid (fun j => ref_digit (bt s j) 10 (bt_lt s j) (by omega) w)
  have CH := ref_headed (s.extract i s.size) 120 88 (by rw [ByteArray.size_extract]; omega) w
  rw [headed_at s i (by omega)] at CH
  have CH := Lib.hid CH
  generalize (fun (e : Ending) w' => e = .returned (.int .i64 ((if numBegins s i then numEnd s i else i : Nat) : Int)) ∧ w = w') = Q at *
  have hi' : (i : Int) < s.size := by omega
  have hin : ¬ (s.size : Int) ≤ i := by omega
  have hi0 : (0 : Int) ≤ i := by omega
  have hin0 : ¬ (i : Int) < 0 := by omega
  have hile : (i : Int) ≤ s.size := by omega
  have hw1 : IntKind.i64.wrap ((i : Int) + 1) = ((i + 1 : Nat) : Int) := by rw [IntKind.wrap_i64]; omega
  have yi := bt_at s i hi
  have CD0 := CD.out i
  -- does none begin?
  have key : numBegins s i = true → ∀ (P : Prop), (∀ (V : Nat), RowKit.Hid (numEnd s i = V) → RowKit.Hid (numTo s i (numHex s i) i = V) → RowKit.Hid (∀ r : Nat, V = r → Q (.returned (.int .i64 (r : Nat))) w) → P) → P := fun hb P k => by
    have HQ2 := HQ.out
    rw [hb] at HQ2
    exact k (numEnd s i) (Lib.hid rfl) (Lib.hid rfl) (Lib.hid HQ2)
  cases hd0 : decide (dval (bt s i) < 10) with
  | true =>
    rw [hd0] at CD0 HB
    have CD0 := Lib.hid CD0
    have hb : numBegins s i = true := by rw [HB.out]; rfl
    refine key hb _ (fun V HE HT HQ2 => ?_)
    clear key HB hb HQ hd0
    go_enter Tryz.func46, Tryz.ntmps46
    go_wp2_with fail
    refine CD0.out.mono ?_
    rintro e w' ⟨rfl, rfl⟩
    clear yi CD0
    go_wp2_with fail
    refine CH.out.mono ?_
    rintro e w' ⟨rfl, rfl⟩
    go_wp2_with fail
    generalize numHex s i = hex at *
    go_loopw [6] (fun j wr => ∃ k : Nat, j = .int .i64 k ∧ i ≤ k ∧ k ≤ s.size ∧ RowKit.Hid (numTo s i hex k = V) ∧ wr = w) (fun j _ => s.size - (intOf j).toNat)
    case atStart => exact ⟨i, rfl, Nat.le_refl _, by omega, HT, rfl⟩
    case round =>
      obtain ⟨k, rfl, hik, hk, HT, rfl⟩ := hrel
      by_cases hlt : k < s.size
      · have hlt' : (k : Int) < s.size := by omega
        have hk0 : (0 : Int) ≤ k := by omega
        have yk := bt_at s k hlt
        have hwk : IntKind.i64.wrap ((k : Int) + 1) = ((k + 1 : Nat) : Int) := by rw [IntKind.wrap_i64]; omega
        have HK : RowKit.Hid (k + 1 ≤ s.size) := Lib.hid hlt
        have HIK : RowKit.Hid (i ≤ k + 1) := Lib.hid (by omega)
        have HYES : RowKit.Hid (numCh s i hex k = true → numTo s i hex (k + 1) = V) := Lib.hid fun h => (numTo_yes hlt h).symm.trans HT.out
        have HNO : RowKit.Hid (numCh s i hex k = false → V = k) := Lib.hid fun h => HT.out.symm.trans (numTo_no (fun g => by rw [h] at g; cases g.2))
        have HAL := Lib.hid (@numCh_alw s i k hex)
        have HNE := Lib.hid (@numCh_nev s i k hex)
        clear HT
        by_cases hal : alwB (bt s k)
        · have HT2 := Lib.hid (HYES.out (HAL.out hal))
          clear HYES HNO HAL HNE
          generalize bt s k = c at *
          rcases hal with ⟨a1, a2⟩ | ⟨a1, a2⟩ | ⟨a1, a2⟩ | rfl | rfl
          · have f1 : (48 : Int) ≤ c := by omega
            have f2 : (c : Int) ≤ 57 := by omega
            go_wp2_with fail
            refine ⟨⟨k + 1, congrArg (Value.int .i64) (by omega), HIK.out, HK.out, HT2, (by first | trivial | rfl)⟩, ?_⟩
            simp only [intOf]
            omega
          · have f1 : (48 : Int) ≤ c := by omega
            have f2 : ¬ (c : Int) ≤ 57 := by omega
            have f3 : (97 : Int) ≤ c := by omega
            have f4 : (c : Int) ≤ 122 := by omega
            go_wp2_with fail
            refine ⟨⟨k + 1, congrArg (Value.int .i64) (by omega), HIK.out, HK.out, HT2, (by first | trivial | rfl)⟩, ?_⟩
            simp only [intOf]
            omega
          · have f1 : (48 : Int) ≤ c := by omega
            have f2 : ¬ (c : Int) ≤ 57 := by omega
            have f3 : ¬ (97 : Int) ≤ c := by omega
            have f5 : (65 : Int) ≤ c := by omega
            have f6 : (c : Int) ≤ 90 := by omega
            go_wp2_with fail
            refine ⟨⟨k + 1, congrArg (Value.int .i64) (by omega), HIK.out, HK.out, HT2, (by first | trivial | rfl)⟩, ?_⟩
            simp only [intOf]
            omega
          · go_wp2_with fail
            refine ⟨⟨k + 1, congrArg (Value.int .i64) (by omega), HIK.out, HK.out, HT2, (by first | trivial | rfl)⟩, ?_⟩
            simp only [intOf]
            omega
          · go_wp2_with fail
            refine ⟨⟨k + 1, congrArg (Value.int .i64) (by omega), HIK.out, HK.out, HT2, (by first | trivial | rfl)⟩, ?_⟩
            simp only [intOf]
            omega
        · have hnv := HNE.out hal
          by_cases hsg : bt s k = 43 ∨ bt s k = 45
          · by_cases hik2 : i < k
            · have hik' : (i : Int) < k := by omega
              have w1 : IntKind.i64.wrap ((k : Int) - 1) = ((k - 1 : Nat) : Int) := by rw [IntKind.wrap_i64]; omega
              have w2 : (k : Int) - 1 < s.size := by omega
              have w3 : (0 : Int) ≤ (k : Int) - 1 := by omega
              have w4 : ((k : Int) - 1).toNat = k - 1 := by omega
              have w5 : ((k - 1 : Nat) : Int) < s.size := by omega
              have yp := bt_at s (k - 1) (by omega)
              rw [decide_eq_true hik2, decide_eq_true hsg] at hnv
              simp only [Bool.true_and, Bool.and_self] at hnv
              have HNV := Lib.hid hnv
              clear hnv hal HAL HNE
              generalize bt s (k - 1) = d at *
              generalize bt s k = c at *
              cases hex with
              | true =>
                by_cases hd : d = 112 ∨ d = 80
                · have HT2 := Lib.hid (HYES.out (HNV.out.trans (decide_eq_true hd)))
                  clear HYES HNO HNV
                  rcases hsg with rfl | rfl <;> rcases hd with rfl | rfl
                  all_goals
                    go_wp2_with fail
                    refine ⟨⟨k + 1, congrArg (Value.int .i64) (by omega), HIK.out, HK.out, HT2, (by first | trivial | rfl)⟩, ?_⟩
                    simp only [intOf]
                    omega
                · have HF := Lib.hid (HNO.out (HNV.out.trans (decide_eq_false hd)))
                  have d1 : ((d : Int) == 112) = false := by rw [beq_eq_false_iff_ne]; omega
                  have d2 : ((d : Int) == 80) = false := by rw [beq_eq_false_iff_ne]; omega
                  clear HYES HNO HNV hd
                  rcases hsg with rfl | rfl
                  all_goals
                    go_wp2_with fail
                    exact HQ2.out _ HF.out
              | false =>
                by_cases hd : d = 101 ∨ d = 69
                · have HT2 := Lib.hid (HYES.out (HNV.out.trans (decide_eq_true hd)))
                  clear HYES HNO HNV
                  rcases hsg with rfl | rfl <;> rcases hd with rfl | rfl
                  all_goals
                    go_wp2_with fail
                    refine ⟨⟨k + 1, congrArg (Value.int .i64) (by omega), HIK.out, HK.out, HT2, (by first | trivial | rfl)⟩, ?_⟩
                    simp only [intOf]
                    omega
                · have HF := Lib.hid (HNO.out (HNV.out.trans (decide_eq_false hd)))
                  have d1 : ((d : Int) == 101) = false := by rw [beq_eq_false_iff_ne]; omega
                  have d2 : ((d : Int) == 69) = false := by rw [beq_eq_false_iff_ne]; omega
                  clear HYES HNO HNV hd
                  rcases hsg with rfl | rfl
                  all_goals
                    go_wp2_with fail
                    exact HQ2.out _ HF.out
            · have hik' : ¬ (i : Int) < k := by omega
              have HF := Lib.hid (HNO.out (by rw [hnv, decide_eq_false hik2]; rfl))
              clear HYES HNO HAL HNE hnv hal
              generalize bt s k = c at *
              rcases hsg with rfl | rfl
              all_goals
                go_wp2_with fail
                exact HQ2.out _ HF.out
          · have HF := Lib.hid (HNO.out (by rw [hnv, decide_eq_false hsg]; simp))
            clear HYES HNO HAL HNE hnv
            have hcl := bt_lt s k
            generalize bt s k = c at *
            unfold alwB at hal
            have m1 : ((c : Int) == 95) = false := by rw [beq_eq_false_iff_ne]; omega
            have m2 : ((c : Int) == 46) = false := by rw [beq_eq_false_iff_ne]; omega
            have m3 : ((c : Int) == 43) = false := by rw [beq_eq_false_iff_ne]; omega
            have m4 : ((c : Int) == 45) = false := by rw [beq_eq_false_iff_ne]; omega
            have h4 : c < 48 ∨ (58 ≤ c ∧ c < 65) ∨ (91 ≤ c ∧ c < 97) ∨ 123 ≤ c := by omega
            clear hal hsg
            by_cases hik2 : (i : Int) < k
            all_goals
              rcases h4 with g | ⟨g, g'⟩ | ⟨g, g'⟩ | g
              · have f1 : ¬ (48 : Int) ≤ c := by omega
                have f3 : ¬ (97 : Int) ≤ c := by omega
                have f5 : ¬ (65 : Int) ≤ c := by omega
                go_wp2_with fail
                exact HQ2.out _ HF.out
              · have f1 : (48 : Int) ≤ c := by omega
                have f2 : ¬ (c : Int) ≤ 57 := by omega
                have f3 : ¬ (97 : Int) ≤ c := by omega
                have f5 : ¬ (65 : Int) ≤ c := by omega
                go_wp2_with fail
                exact HQ2.out _ HF.out
              · have f1 : (48 : Int) ≤ c := by omega
                have f2 : ¬ (c : Int) ≤ 57 := by omega
                have f3 : ¬ (97 : Int) ≤ c := by omega
                have f5 : (65 : Int) ≤ c := by omega
                have f6 : ¬ (c : Int) ≤ 90 := by omega
                go_wp2_with fail
                exact HQ2.out _ HF.out
              · have f1 : (48 : Int) ≤ c := by omega
                have f2 : ¬ (c : Int) ≤ 57 := by omega
                have f3 : (97 : Int) ≤ c := by omega
                have f4 : ¬ (c : Int) ≤ 122 := by omega
                have f5 : (65 : Int) ≤ c := by omega
                have f6 : ¬ (c : Int) ≤ 90 := by omega
                go_wp2_with fail
                exact HQ2.out _ HF.out
      · have hlt' : ¬ (k : Int) < s.size := by omega
        have HF : RowKit.Hid (V = s.size) := Lib.hid (by rw [← HT.out, numTo_no (fun g => hlt g.1)]; omega)
        go_wp2_with fail
        exact HQ2.out _ HF.out
  | false =>
    rw [hd0] at CD0 HB
    have CD0 := Lib.hid CD0
    by_cases hc : bt s i = 46
    · by_cases hl : i + 1 < s.size
      · have hl' : (i : Int) + 1 < s.size := by omega
        have hl0 : (0 : Int) ≤ (i : Int) + 1 := by omega
        have hln : ((i : Int) + 1).toNat = i + 1 := by omega
        have hle : (((i + 1 : Nat) : Int) == (s.size : Int)) = false := by rw [beq_eq_false_iff_ne]; omega
        have hle2 : ((i : Int) + 1 == (s.size : Int)) = false := by rw [beq_eq_false_iff_ne]; omega
        have hle3 : decide (i + 1 = s.size) = false := decide_eq_false (by omega)
        have yn := bt_at s (i + 1) hl
        have CD1 := CD.out (i + 1)
        rw [decide_eq_true hl, decide_eq_true hc] at HB
        cases hd1 : decide (dval (bt s (i + 1)) < 10) with
        | true =>
          rw [hd1] at CD1 HB
          have CD1 := Lib.hid CD1
          have hb : numBegins s i = true := by rw [HB.out]; rfl
          rw [hc] at CD0 yi
          refine key hb _ (fun V HE HT HQ2 => ?_)
          clear key HB hb HQ hd0 hd1 hc
          go_enter Tryz.func46, Tryz.ntmps46
          go_wp2_with fail
          refine CD0.out.mono ?_
          rintro e w' ⟨rfl, rfl⟩
          go_wp2_with fail
          refine CD1.out.mono ?_
          rintro e w' ⟨rfl, rfl⟩
          clear yi CD0 yn CD1 hl hl' hl0 hln hle hle2 hle3
          go_wp2_with fail
          refine CH.out.mono ?_
          rintro e w' ⟨rfl, rfl⟩
          go_wp2_with fail
          generalize numHex s i = hex at *
          go_loopw [6] (fun j wr => ∃ k : Nat, j = .int .i64 k ∧ i ≤ k ∧ k ≤ s.size ∧ RowKit.Hid (numTo s i hex k = V) ∧ wr = w) (fun j _ => s.size - (intOf j).toNat)
          case atStart => exact ⟨i, rfl, Nat.le_refl _, by omega, HT, rfl⟩
          case round =>
            obtain ⟨k, rfl, hik, hk, HT, rfl⟩ := hrel
            by_cases hlt : k < s.size
            · have hlt' : (k : Int) < s.size := by omega
              have hk0 : (0 : Int) ≤ k := by omega
              have yk := bt_at s k hlt
              have hwk : IntKind.i64.wrap ((k : Int) + 1) = ((k + 1 : Nat) : Int) := by rw [IntKind.wrap_i64]; omega
              have HK : RowKit.Hid (k + 1 ≤ s.size) := Lib.hid hlt
              have HIK : RowKit.Hid (i ≤ k + 1) := Lib.hid (by omega)
              have HYES : RowKit.Hid (numCh s i hex k = true → numTo s i hex (k + 1) = V) := Lib.hid fun h => (numTo_yes hlt h).symm.trans HT.out
              have HNO : RowKit.Hid (numCh s i hex k = false → V = k) := Lib.hid fun h => HT.out.symm.trans (numTo_no (fun g => by rw [h] at g; cases g.2))
              have HAL := Lib.hid (@numCh_alw s i k hex)
              have HNE := Lib.hid (@numCh_nev s i k hex)
              clear HT
              by_cases hal : alwB (bt s k)
              · have HT2 := Lib.hid (HYES.out (HAL.out hal))
                clear HYES HNO HAL HNE
                generalize bt s k = c at *
                rcases hal with ⟨a1, a2⟩ | ⟨a1, a2⟩ | ⟨a1, a2⟩ | rfl | rfl
                · have f1 : (48 : Int) ≤ c := by omega
                  have f2 : (c : Int) ≤ 57 := by omega
                  go_wp2_with fail
                  refine ⟨⟨k + 1, congrArg (Value.int .i64) (by omega), HIK.out, HK.out, HT2, (by first | trivial | rfl)⟩, ?_⟩
                  simp only [intOf]
                  omega
                · have f1 : (48 : Int) ≤ c := by omega
                  have f2 : ¬ (c : Int) ≤ 57 := by omega
                  have f3 : (97 : Int) ≤ c := by omega
                  have f4 : (c : Int) ≤ 122 := by omega
                  go_wp2_with fail
                  refine ⟨⟨k + 1, congrArg (Value.int .i64) (by omega), HIK.out, HK.out, HT2, (by first | trivial | rfl)⟩, ?_⟩
                  simp only [intOf]
                  omega
                · have f1 : (48 : Int) ≤ c := by omega
                  have f2 : ¬ (c : Int) ≤ 57 := by omega
                  have f3 : ¬ (97 : Int) ≤ c := by omega
                  have f5 : (65 : Int) ≤ c := by omega
                  have f6 : (c : Int) ≤ 90 := by omega
                  go_wp2_with fail
                  refine ⟨⟨k + 1, congrArg (Value.int .i64) (by omega), HIK.out, HK.out, HT2, (by first | trivial | rfl)⟩, ?_⟩
                  simp only [intOf]
                  omega
                · go_wp2_with fail
                  refine ⟨⟨k + 1, congrArg (Value.int .i64) (by omega), HIK.out, HK.out, HT2, (by first | trivial | rfl)⟩, ?_⟩
                  simp only [intOf]
                  omega
                · go_wp2_with fail
                  refine ⟨⟨k + 1, congrArg (Value.int .i64) (by omega), HIK.out, HK.out, HT2, (by first | trivial | rfl)⟩, ?_⟩
                  simp only [intOf]
                  omega
              · have hnv := HNE.out hal
                by_cases hsg : bt s k = 43 ∨ bt s k = 45
                · by_cases hik2 : i < k
                  · have hik' : (i : Int) < k := by omega
                    have w1 : IntKind.i64.wrap ((k : Int) - 1) = ((k - 1 : Nat) : Int) := by rw [IntKind.wrap_i64]; omega
                    have w2 : (k : Int) - 1 < s.size := by omega
                    have w3 : (0 : Int) ≤ (k : Int) - 1 := by omega
                    have w4 : ((k : Int) - 1).toNat = k - 1 := by omega
                    have w5 : ((k - 1 : Nat) : Int) < s.size := by omega
                    have yp := bt_at s (k - 1) (by omega)
                    rw [decide_eq_true hik2, decide_eq_true hsg] at hnv
                    simp only [Bool.true_and, Bool.and_self] at hnv
                    have HNV := Lib.hid hnv
                    clear hnv hal HAL HNE
                    generalize bt s (k - 1) = d at *
                    generalize bt s k = c at *
                    cases hex with
                    | true =>
                      by_cases hd : d = 112 ∨ d = 80
                      · have HT2 := Lib.hid (HYES.out (HNV.out.trans (decide_eq_true hd)))
                        clear HYES HNO HNV
                        rcases hsg with rfl | rfl <;> rcases hd with rfl | rfl
                        all_goals
                          go_wp2_with fail
                          refine ⟨⟨k + 1, congrArg (Value.int .i64) (by omega), HIK.out, HK.out, HT2, (by first | trivial | rfl)⟩, ?_⟩
                          simp only [intOf]
                          omega
                      · have HF := Lib.hid (HNO.out (HNV.out.trans (decide_eq_false hd)))
                        have d1 : ((d : Int) == 112) = false := by rw [beq_eq_false_iff_ne]; omega
                        have d2 : ((d : Int) == 80) = false := by rw [beq_eq_false_iff_ne]; omega
                        clear HYES HNO HNV hd
                        rcases hsg with rfl | rfl
                        all_goals
                          go_wp2_with fail
                          exact HQ2.out _ HF.out
                    | false =>
                      by_cases hd : d = 101 ∨ d = 69
                      · have HT2 := Lib.hid (HYES.out (HNV.out.trans (decide_eq_true hd)))
                        clear HYES HNO HNV
                        rcases hsg with rfl | rfl <;> rcases hd with rfl | rfl
                        all_goals
                          go_wp2_with fail
                          refine ⟨⟨k + 1, congrArg (Value.int .i64) (by omega), HIK.out, HK.out, HT2, (by first | trivial | rfl)⟩, ?_⟩
                          simp only [intOf]
                          omega
                      · have HF := Lib.hid (HNO.out (HNV.out.trans (decide_eq_false hd)))
                        have d1 : ((d : Int) == 101) = false := by rw [beq_eq_false_iff_ne]; omega
                        have d2 : ((d : Int) == 69) = false := by rw [beq_eq_false_iff_ne]; omega
                        clear HYES HNO HNV hd
                        rcases hsg with rfl | rfl
                        all_goals
                          go_wp2_with fail
                          exact HQ2.out _ HF.out
                  · have hik' : ¬ (i : Int) < k := by omega
                    have HF := Lib.hid (HNO.out (by rw [hnv, decide_eq_false hik2]; rfl))
                    clear HYES HNO HAL HNE hnv hal
                    generalize bt s k = c at *
                    rcases hsg with rfl | rfl
                    all_goals
                      go_wp2_with fail
                      exact HQ2.out _ HF.out
                · have HF := Lib.hid (HNO.out (by rw [hnv, decide_eq_false hsg]; simp))
                  clear HYES HNO HAL HNE hnv
                  have hcl := bt_lt s k
                  generalize bt s k = c at *
                  unfold alwB at hal
                  have m1 : ((c : Int) == 95) = false := by rw [beq_eq_false_iff_ne]; omega
                  have m2 : ((c : Int) == 46) = false := by rw [beq_eq_false_iff_ne]; omega
                  have m3 : ((c : Int) == 43) = false := by rw [beq_eq_false_iff_ne]; omega
                  have m4 : ((c : Int) == 45) = false := by rw [beq_eq_false_iff_ne]; omega
                  have h4 : c < 48 ∨ (58 ≤ c ∧ c < 65) ∨ (91 ≤ c ∧ c < 97) ∨ 123 ≤ c := by omega
                  clear hal hsg
                  by_cases hik2 : (i : Int) < k
                  all_goals
                    rcases h4 with g | ⟨g, g'⟩ | ⟨g, g'⟩ | g
                    · have f1 : ¬ (48 : Int) ≤ c := by omega
                      have f3 : ¬ (97 : Int) ≤ c := by omega
                      have f5 : ¬ (65 : Int) ≤ c := by omega
                      go_wp2_with fail
                      exact HQ2.out _ HF.out
                    · have f1 : (48 : Int) ≤ c := by omega
                      have f2 : ¬ (c : Int) ≤ 57 := by omega
                      have f3 : ¬ (97 : Int) ≤ c := by omega
                      have f5 : ¬ (65 : Int) ≤ c := by omega
                      go_wp2_with fail
                      exact HQ2.out _ HF.out
                    · have f1 : (48 : Int) ≤ c := by omega
                      have f2 : ¬ (c : Int) ≤ 57 := by omega
                      have f3 : ¬ (97 : Int) ≤ c := by omega
                      have f5 : (65 : Int) ≤ c := by omega
                      have f6 : ¬ (c : Int) ≤ 90 := by omega
                      go_wp2_with fail
                      exact HQ2.out _ HF.out
                    · have f1 : (48 : Int) ≤ c := by omega
                      have f2 : ¬ (c : Int) ≤ 57 := by omega
                      have f3 : (97 : Int) ≤ c := by omega
                      have f4 : ¬ (c : Int) ≤ 122 := by omega
                      have f5 : (65 : Int) ≤ c := by omega
                      have f6 : ¬ (c : Int) ≤ 90 := by omega
                      go_wp2_with fail
                      exact HQ2.out _ HF.out
            · have hlt' : ¬ (k : Int) < s.size := by omega
              have HF : RowKit.Hid (V = s.size) := Lib.hid (by rw [← HT.out, numTo_no (fun g => hlt g.1)]; omega)
              go_wp2_with fail
              exact HQ2.out _ HF.out
        | false =>
          rw [hd1] at CD1 HB
          have CD1 := Lib.hid CD1
          have HF := Lib.hid (show (if numBegins s i then numEnd s i else i) = i by rw [HB.out]; rfl)
          rw [hc] at CD0 yi
          clear key HB hd0 hd1 hc
          go_enter Tryz.func46, Tryz.ntmps46
          go_wp2_with fail
          refine CD0.out.mono ?_
          rintro e w' ⟨rfl, rfl⟩
          go_wp2_with fail
          refine CD1.out.mono ?_
          rintro e w' ⟨rfl, rfl⟩
          go_wp2_with fail
          exact HQ.out _ HF.out
      · have hle : (((i + 1 : Nat) : Int) == (s.size : Int)) = true := by rw [beq_iff_eq]; omega
        have hle2 : ((i : Int) + 1 == (s.size : Int)) = true := by rw [beq_iff_eq]; omega
        have hle3 : decide (i + 1 = s.size) = true := decide_eq_true (by omega)
        rw [decide_eq_false hl, decide_eq_true hc] at HB
        have HF := Lib.hid (show (if numBegins s i then numEnd s i else i) = i by rw [HB.out]; rfl)
        rw [hc] at CD0 yi
        clear key HB hd0 hc
        go_enter Tryz.func46, Tryz.ntmps46
        go_wp2_with fail
        refine CD0.out.mono ?_
        rintro e w' ⟨rfl, rfl⟩
        go_wp2_with fail
        exact HQ.out _ HF.out
    · have hcb : ((bt s i : Int) != 46) = true := by simp; omega
      rw [decide_eq_false hc] at HB
      have HF := Lib.hid (show (if numBegins s i then numEnd s i else i) = i by rw [HB.out]; rfl)
      clear key HB hd0 hc
      generalize bt s i = c at *
      go_enter Tryz.func46, Tryz.ntmps46
      go_wp2_with fail
      refine CD0.out.mono ?_
      rintro e w' ⟨rfl, rfl⟩
      go_wp2_with fail
      exact HQ.out _ HF.out
end Go.Proofs.YtelfobnmiphdnaaGreatDoor
namespace Go.Proofs.YtelfobnmiphdnaaGreatDoor
set_option linter.all false
open Go.RowKit
attribute [local irreducible] Calls
set_option maxRecDepth 100000 in
set_option maxHeartbeats 4000000 in
theorem ref_Scan05 (s : ByteArray) (i : Nat) (hi : i < s.size) (hs : s.size ≤ 2147483647) (w : World) :
    Calls Tryz.prog 35 #[.string s, .int .i64 (i : Int)] w fun e w' => e = .returned (.tuple #[.int .u8 (numScan s i).1, .int .i64 (numScan s i).2.1, .int .i64 (numScan s i).2.2]) ∧ w = w' := by
  have HQ : RowKit.Hid (∀ a b c, numScan s i = (a, b, c) → (fun (e : Ending) w' => e = .returned (.tuple #[.int .u8 (numScan s i).1, .int .i64 (numScan s i).2.1, .int .i64 (numScan s i).2.2]) ∧ w = w') (.returned (.tuple #[.int .u8 a, .int .i64 b, .int .i64 c])) w) := Lib.hid fun a b c h => ⟨by rw [h], rfl⟩
  have HV : RowKit.Hid (numScan s i = if numBegins s i = true then (if kindL (byts (s.extract i (numEnd s i))) ≠ 0 then ((kindL (byts (s.extract i (numEnd s i))) : Int), (numEnd s i : Int), 0) else (0, 0, 4)) else (0, 0, 15)) := Lib.hid (by
    unfold numScan
    rw [Int.toNat_natCast]
    by_cases h : numBegins s i = true
    · rw [if_pos ⟨by omega, h⟩, if_pos h]
    · rw [if_neg (fun g => h g.2), if_neg h])
  have CR := ref_Run s i hi hs w
  have CK := ref_Kind (s.extract i (numEnd s i)) (by rw [ByteArray.size_extract]; omega) w
  have HG := Lib.hid (@numEnd_gt s i)
  generalize (fun (e : Ending) w' => e = .returned (.tuple #[.int .u8 (numScan s i).1, .int .i64 (numScan s i).2.1, .int .i64 (numScan s i).2.2]) ∧ w = w') = Q at *
  generalize numScan s i = V at *
  generalize numBegins s i = bg at *
  generalize numEnd s i = e at *
  generalize kindL (byts (s.extract i e)) = kd at *
  have CK := Lib.hid CK
  cases bg with
  | false =>
    have HF := Lib.hid (show V = (0, 0, 15) by rw [HV.out]; rfl)
    have CR2 : RowKit.Hid (Calls Tryz.prog 46 #[.string s, .int .i64 (i : Int)] w fun e w' => e = .returned (.int .i64 (i : Int)) ∧ w = w') := Lib.hid (by rw [if_neg (by decide)] at CR; exact CR)
    clear CR
    clear HV CK
    go_enter Tryz.func35, Tryz.ntmps35
    go_wp2_with fail
    refine CR2.out.mono ?_
    rintro e w' ⟨rfl, rfl⟩
    go_wp2_with fail
    exact HQ.out _ _ _ HF.out
  | true =>
    obtain ⟨g1, g2⟩ := HG.out rfl
    have CR2 : RowKit.Hid (Calls Tryz.prog 46 #[.string s, .int .i64 (i : Int)] w fun e' w' => e' = .returned (.int .i64 (e : Int)) ∧ w = w') := Lib.hid (by rw [if_pos rfl] at CR; exact CR)
    clear CR
    have q1 : (i : Int) ≤ e := by omega
    have q2 : (e : Int) ≤ s.size := by omega
    have q3 : (0 : Int) ≤ i := by omega
    have q4 : ((e : Int) == (i : Int)) = false := by rw [beq_eq_false_iff_ne]; omega
    have q5 : decide (e = i) = false := decide_eq_false (by omega)
    have q6 : ¬ e = i := by omega
    by_cases hk : kd = 0
    · subst hk
      have HF := Lib.hid (show V = (0, 0, 4) by rw [HV.out]; rfl)
      clear HV g1
      go_enter Tryz.func35, Tryz.ntmps35
      go_wp2_with fail
      refine CR2.out.mono ?_
      rintro e w' ⟨rfl, rfl⟩
      go_wp2_with fail
      refine CK.out.mono ?_
      rintro e w' ⟨rfl, rfl⟩
      go_wp2_with fail
      exact HQ.out _ _ _ HF.out
    · have hkb : ((kd : Int) == 0) = false := by rw [beq_eq_false_iff_ne]; omega
      have HF := Lib.hid (show V = ((kd : Int), (e : Int), 0) by rw [HV.out, if_pos rfl, if_pos hk])
      clear HV g1
      go_enter Tryz.func35, Tryz.ntmps35
      go_wp2_with fail
      refine CR2.out.mono ?_
      rintro e w' ⟨rfl, rfl⟩
      go_wp2_with fail
      refine CK.out.mono ?_
      rintro e w' ⟨rfl, rfl⟩
      go_wp2_with fail
      exact HQ.out _ _ _ HF.out
end Go.Proofs.YtelfobnmiphdnaaGreatDoor
