/- Layer 5: the program's functions, walked: where a number begins, the number at a place. -/
import Derived.Test.YtelfobnmiphdnaaGreatDoorNum4
import Derived.Deep.DeepCutAuto
namespace Go.Proofs.YtelfobnmiphdnaaGreatDoor
set_option linter.all false
open Go.RowKit

theorem beginsI_out {s : ByteArray} {at' : Int} (h : at' < 0 ∨ (s.size : Int) ≤ at') : (decide (0 ≤ at') && numBegins s at'.toNat) = false := by
  rw [Bool.eq_false_iff]
  intro hh
  simp only [Bool.and_eq_true, decide_eq_true_eq] at hh
  have := hh.2
  unfold numBegins at this
  simp only [Bool.and_eq_true, decide_eq_true_eq] at this
  omega
set_option maxRecDepth 100000 in
set_option maxHeartbeats 2000000 in
theorem number_begins (s : ByteArray) (at' : Int) (w : World) (hs : s.size ≤ 2147483647) :
    Calls Tryz.prog 80 #[.string s, .int .i64 at'] w fun e w' => e = .returned (.bool (decide (0 ≤ at') && numBegins s at'.toNat)) ∧ w = w' := by
  have HQ : RowKit.Hid (∀ c, (decide (0 ≤ at') && numBegins s at'.toNat) = c → (fun (e : Ending) w' => e = .returned (.bool (decide (0 ≤ at') && numBegins s at'.toNat)) ∧ w = w') (.returned (.bool c)) w) := Lib.hid fun c h => ⟨by rw [h], rfl⟩
  generalize (fun (e : Ending) w' => e = .returned (.bool (decide (0 ≤ at') && numBegins s at'.toNat)) ∧ w = w') = Q at *
  by_cases hneg : at' < 0
  · have HV := Lib.hid (beginsI_out (s := s) (Or.inl hneg))
    go_enter Tryz.func80, Tryz.ntmps80
    go_wp2_with fail
    show Q (.returned (.bool _)) _
    exact HQ.out _ HV.out
  · by_cases hge : (s.size : Int) ≤ at'
    · have HV := Lib.hid (beginsI_out (s := s) (Or.inr hge))
      go_enter Tryz.func80, Tryz.ntmps80
      go_wp2_with fail
      show Q (.returned (.bool _)) _
      exact HQ.out _ HV.out
    · obtain ⟨i, rfl⟩ : ∃ i : Nat, at' = i := ⟨at'.toNat, by omega⟩
      have hi : i < s.size := by omega
      have hi' : (i : Int) < s.size := by omega
      have hi0 : (0 : Int) ≤ i := by omega
      have hV : (decide ((0 : Int) ≤ (i : Int)) && numBegins s ((i : Int)).toNat) = (decide (dval (bt s i) < 10) || (decide (bt s i = 46) && (decide (i + 1 < s.size) && decide (dval (bt s (i + 1)) < 10)))) := by
        rw [Int.toNat_natCast]; unfold numBegins; simp [hi]
      rw [hV] at HQ
      clear hV hneg hge
      have yi : ∀ h, ((s[i]'h).toNat : Int) = (bt s i : Int) := fun h => by rw [bt_at s i h]
      have CV := Lib.hid (fun w => number_value (bt s i) (bt_lt s i) w)
      have CV2 := Lib.hid (fun w => number_value (bt s (i + 1)) (bt_lt s (i + 1)) w)
      have hq1 : ((i : Int) + 1).toNat = i + 1 := by omega
      have hq0 : (0 : Int) ≤ (i : Int) + 1 := by omega
      by_cases hx : dval (bt s i) < 10
      · have hx' : (dval (bt s i) : Int) < 10 := by omega
        rw [decide_eq_true hx, Bool.true_or] at HQ
        generalize dval (bt s i) = x at *
        generalize bt s i = c at *
        go_enter Tryz.func80, Tryz.ntmps80
        go_wp2_with fail
        refine (CV.out _).mono ?_
        rintro e w' ⟨rfl, rfl⟩
        go_wp2_with fail
        show Q (.returned (.bool _)) _
        exact HQ.out _ rfl
      · have hx' : ¬ (dval (bt s i) : Int) < 10 := by omega
        rw [decide_eq_false hx, Bool.false_or] at HQ
        generalize dval (bt s i) = x at *
        by_cases hc : bt s i = 46
        · rw [decide_eq_true hc, Bool.true_and] at HQ
          rw [hc] at yi CV
          clear hc
          by_cases hl : i + 1 < s.size
          · have hl' : (i : Int) + 1 < s.size := by omega
            rw [decide_eq_true hl, Bool.true_and] at HQ
            have yj : ∀ h, ((s[i + 1]'h).toNat : Int) = (bt s (i + 1) : Int) := fun h => by rw [bt_at s (i + 1) h]
            generalize dval (bt s (i + 1)) = x2 at *
            generalize bt s (i + 1) = d at *
            go_enter Tryz.func80, Tryz.ntmps80
            go_wp2_with fail
            refine (CV.out _).mono ?_
            rintro e w' ⟨rfl, rfl⟩
            go_wp2_with fail
            refine (CV2.out _).mono ?_
            rintro e w' ⟨rfl, rfl⟩
            go_wp2_with fail
            show Q (.returned (.bool _)) _
            exact HQ.out _ (by rw [Bool.eq_iff_iff]; simp <;> omega)
          · have hl' : ¬ (i : Int) + 1 < s.size := by omega
            rw [decide_eq_false hl, Bool.false_and] at HQ
            go_enter Tryz.func80, Tryz.ntmps80
            go_wp2_with fail
            refine (CV.out _).mono ?_
            rintro e w' ⟨rfl, rfl⟩
            go_wp2_with fail
            show Q (.returned (.bool _)) _
            exact HQ.out _ (by simp; omega)
        · have hc' : ¬ (bt s i : Int) = 46 := by omega
          have hcb := nb (bt s i) 46 hc
          rw [decide_eq_false hc, Bool.false_and] at HQ
          clear hc
          generalize bt s i = c at *
          go_enter Tryz.func80, Tryz.ntmps80
          go_wp2_with fail
          refine (CV.out _).mono ?_
          rintro e w' ⟨rfl, rfl⟩
          go_wp2_with fail
          show Q (.returned (.bool _)) _
          exact HQ.out _ (by simp; omega)
theorem or32 : ∀ d : Nat, d < 256 → (bits .or .u8 (d : Int) 32 = 101 ↔ d = 101 ∨ d = 69) ∧ (bits .or .u8 (d : Int) 32 = 112 ↔ d = 112 ∨ d = 80) := by decide +kernel
/-- What a byte within a number is, in the form of its tests. -/
def chP (c x a i d : Nat) (hex : Bool) : Prop := c = 95 ∨ c = 46 ∨ x < 10 ∨ (97 ≤ c ∧ c ≤ 122) ∨ (65 ≤ c ∧ c ≤ 90) ∨ (a < i ∧ (c = 43 ∨ c = 45) ∧ (if hex = true then d = 112 ∨ d = 80 else d = 101 ∨ d = 69))
theorem numCh_iff (s : ByteArray) (a i : Nat) (hex : Bool) : numCh s a hex i = true ↔ chP (bt s i) (dval (bt s i)) a i (bt s (i - 1)) hex := by
  unfold numCh chP
  cases hex <;> simp [or_assoc, and_assoc]
def p1P (c x : Nat) : Prop := c = 95 ∨ c = 46 ∨ x < 10 ∨ (97 ≤ c ∧ c ≤ 122) ∨ (65 ≤ c ∧ c ≤ 90)
instance (c x : Nat) : Decidable (p1P c x) := by unfold p1P; infer_instance
def p2P (c a i d : Nat) (hex : Bool) : Prop := a < i ∧ (c = 43 ∨ c = 45) ∧ (if hex = true then d = 112 ∨ d = 80 else d = 101 ∨ d = 69)
instance (c a i d : Nat) (hex : Bool) : Decidable (p2P c a i d hex) := by unfold p2P; infer_instance
theorem chP_or {c x a i d : Nat} {hex : Bool} : chP c x a i d hex ↔ p1P c x ∨ p2P c a i d hex := by unfold chP p1P p2P; simp only [or_assoc]
theorem chP_1 {c x a i d : Nat} {hex : Bool} (h : p1P c x) : chP c x a i d hex := chP_or.2 (Or.inl h)
theorem chP_2 {c x a i d : Nat} {hex : Bool} (h : p2P c a i d hex) : chP c x a i d hex := chP_or.2 (Or.inr h)
def p1B (c x : Nat) : Bool := decide (p1P c x)
theorem p1B_iff (c x : Nat) : p1B c x = true ↔ p1P c x := by unfold p1B; exact decide_eq_true_iff
def p2B (c a i d : Nat) (hex : Bool) : Bool := decide (p2P c a i d hex)
theorem p2B_iff (c a i d : Nat) (hex : Bool) : p2B c a i d hex = true ↔ p2P c a i d hex := by unfold p2B; exact decide_eq_true_iff
theorem leafB (b c : Bool) (h : b = true ↔ c = true) : Value.bool b = Value.bool c := by
  congr 1
  rw [Bool.eq_iff_iff, h]
def scan5Post (s : ByteArray) (at' : Int) (w0 : World) (e : Ending) (w' : World) : Prop :=
  e = .returned (.tuple #[.int .u8 (numScan s at').1, .int .i64 (numScan s at').2.1, .int .i64 (numScan s at').2.2]) ∧ Below w0.heap.size w0 w'
attribute [irreducible] scan5Post
theorem results_three (T : Array Value) (a b c : Value) (h : T = #[a, b, c]) : T = #[a, b, c] := h
set_option maxRecDepth 100000 in
set_option maxHeartbeats 4000000 in
theorem number_Scan (s : ByteArray) (at' : Int) (w : World) (hs : s.size ≤ 2147483647) :
    Calls Tryz.prog 56 #[.string s, .int .i64 at'] w (scan5Post s at' w) := by
  have HQ : RowKit.Hid (∀ w' a b c, numScan s at' = (a, b, c) → Below w.heap.size w w' → scan5Post s at' w (.returned (.tuple #[.int .u8 a, .int .i64 b, .int .i64 c])) w') := Lib.hid fun w' a b c h h2 => by
    unfold scan5Post; rw [h]; exact ⟨rfl, h2⟩
  have CB := number_begins s at' w hs
  generalize scan5Post s at' w = Q at *
  cases hb : (decide (0 ≤ at') && numBegins s at'.toNat)
  · rw [hb] at CB
    have HV : RowKit.Hid (numScan s at' = (0, 0, 15)) := Lib.hid (by
      unfold numScan
      rw [if_neg]
      rintro ⟨h1, h2⟩
      rw [h2] at hb; simp at hb; omega)
    have CBh := Lib.hid CB
    clear CB hb
    go_enter Tryz.func56, Tryz.ntmps56
    go_wp2_with fail
    refine CBh.out.mono ?_
    rintro e w1 ⟨rfl, rfl⟩
    go_wp2_with fail
    show Q (.returned (.tuple #[_, _, _])) _
    exact HQ.out _ _ _ _ HV.out (Below.refl _ _)
  · rw [hb] at CB
    simp only [Bool.and_eq_true, decide_eq_true_eq] at hb
    obtain ⟨h0, hbeg⟩ := hb
    obtain ⟨a, rfl⟩ : ∃ a : Nat, at' = a := ⟨at'.toNat, by omega⟩
    rw [Int.toNat_natCast] at hbeg
    have hend := numEnd_gt hbeg
    have ha : a < s.size := by omega
    have hV : numScan s a = if kindL (byts (s.extract a (numEnd s a))) ≠ 0 then ((kindL (byts (s.extract a (numEnd s a))) : Int), (numEnd s a : Int), 0) else (0, 0, 4) := by
      unfold numScan
      rw [Int.toNat_natCast, if_pos ⟨by omega, hbeg⟩]
    have HV := Lib.hid hV
    have CBh := Lib.hid CB
    clear CB hbeg hV
    have P1 := prefix2 s a 48 120
    have P2 := prefix2 s a 48 88
    have CX : RowKit.Hid (∀ w, Calls Tryz.prog 52 #[.string (s.extract a s.size), .string ⟨#[48, 120]⟩] w fun e w' => e = .returned (.bool (decide (a + 1 < s.size ∧ bt s a = 48 ∧ bt s (a + 1) = 120))) ∧ w' = w) := Lib.hid fun w => by
      have := Tryz.strings_HasPrefix (s.extract a s.size) ⟨#[48, 120]⟩ w
      rw [show (⟨#[48, 120]⟩ : ByteArray).data.toList = [48, 120] from rfl, P1] at this
      exact this
    have CX2 : RowKit.Hid (∀ w, Calls Tryz.prog 52 #[.string (s.extract a s.size), .string ⟨#[48, 88]⟩] w fun e w' => e = .returned (.bool (decide (a + 1 < s.size ∧ bt s a = 48 ∧ bt s (a + 1) = 88))) ∧ w' = w) := Lib.hid fun w => by
      have := Tryz.strings_HasPrefix (s.extract a s.size) ⟨#[48, 88]⟩ w
      rw [show (⟨#[48, 88]⟩ : ByteArray).data.toList = [48, 88] from rfl, P2] at this
      exact this
    have hhex : numHex s a = (decide (a + 1 < s.size ∧ bt s a = 48 ∧ bt s (a + 1) = 120) || decide (a + 1 < s.size ∧ bt s a = 48 ∧ bt s (a + 1) = 88)) := by
      unfold numHex
      rw [Bool.eq_iff_iff]
      simp
      constructor
      · rintro ⟨h1, h2, h3⟩
        rcases h3 with h3 | h3
        · exact Or.inl ⟨h1, h2, h3⟩
        · exact Or.inr ⟨h1, h2, h3⟩
      · rintro (⟨h1, h2, h3⟩ | ⟨h1, h2, h3⟩)
        · exact ⟨h1, h2, Or.inl h3⟩
        · exact ⟨h1, h2, Or.inr h3⟩
    have hsl := fun w => slice_from s (a : Int) a rfl (by omega) w
    have HEND : RowKit.Hid (numEnd s a = numTo s a (numHex s a) a) := Lib.hid rfl
    clear P1 P2
    generalize decide (a + 1 < s.size ∧ bt s a = 48 ∧ bt s (a + 1) = 120) = p1 at *
    generalize decide (a + 1 < s.size ∧ bt s a = 48 ∧ bt s (a + 1) = 88) = p2 at *
    generalize numHex s a = hex at *
    generalize numEnd s a = E at *
    have CK := Lib.hid (fun w => number_Kind (s.extract a E) (by rw [ByteArray.size_extract]; omega) w)
    have hsl2 : ∀ w, (Instr.slice 9 (.string s) (some (.int .i64 (a : Int))) (some (.int .i64 (E : Int))) none).run Tryz.prog w = .ok (.string (s.extract a E)) w := fun w => by
      rw [run_slice_string_if w _ s _ _ _ _ Tryz.underlying9, if_pos ⟨by omega, by omega⟩, if_pos ⟨by omega, by omega⟩, Int.toNat_natCast, Int.toNat_natCast]
    have hk99 : ∀ c, dval c ≤ 99 := fun c => by unfold dval; split <;> (try split) <;> (try split) <;> omega
    have HK99 := Lib.hid hk99
    clear hk99
    generalize kindL (byts (s.extract a E)) = K at *
    -- THE WAYS
    have hpp : (p1 = true ∧ hex = true) ∨ (p1 = false ∧ p2 = hex) := by
      rw [hhex]
      cases p1 with
      | true => exact Or.inl ⟨rfl, rfl⟩
      | false => exact Or.inr ⟨rfl, rfl⟩
    clear hhex
    go_enter Tryz.func56, Tryz.ntmps56
    go_wp2_with fail
    refine CBh.out.mono ?_
    rintro e w1 ⟨rfl, rfl⟩
    go_upto_region 3 with (fail)
    go_cut [7] (fun v wx => v = .bool hex ∧ wx = w)
    case first =>
      rcases hpp with ⟨rfl, rfl⟩ | ⟨rfl, rfl⟩
      · go_wp2_with fail
        refine (CX.out _).mono ?_
        rintro e w2 ⟨rfl, rfl⟩
        go_wp2_with fail
        go_meet
        exact ⟨rfl, rfl⟩
      · go_wp2_with fail
        refine (CX.out _).mono ?_
        rintro e w2 ⟨rfl, rfl⟩
        go_wp2_with fail
        refine (CX2.out _).mono ?_
        rintro e w2 ⟨rfl, rfl⟩
        go_wp2_with fail
        go_meet
        exact ⟨rfl, rfl⟩
    case rest =>
      obtain ⟨rfl, rfl⟩ := hcut
      go_wp2_with fail
      go_loop [8] (fun v => ∃ i : Nat, v = .int .i64 i ∧ a ≤ i ∧ i ≤ s.size ∧ numTo s a hex i = E) (fun v => s.size - (intOf v).toNat)
      case atStart => exact ⟨a, rfl, Nat.le_refl _, by omega, HEND.out.symm⟩
      case round =>
        obtain ⟨i, rfl, hai, hi, hE⟩ := hrel
        have HE := Lib.hid hE
        clear hE
        have hi0 : (0 : Int) ≤ i := by omega
        by_cases hlt : i < s.size
        · have hlt' : (i : Int) < s.size := by omega
          have yi : ∀ h, ((s[i]'h).toNat : Int) = (bt s i : Int) := fun h => by rw [bt_at s i h]
          have yj : a < i → ∀ h, ((s[i - 1]'h).toNat : Int) = (bt s (i - 1) : Int) := fun _ h => by rw [bt_at s (i - 1) h]
          have CV := Lib.hid (fun w => number_value (bt s i) (bt_lt s i) w)
          have HO := Lib.hid (or32 (bt s (i - 1)) (bt_lt s (i - 1)))
          have hwi : a < i → ((i : Int) - 1).toNat = i - 1 := fun _ => by omega
          have HX := Lib.hid (HK99.out (bt s i))
          have HYES := Lib.hid (@numTo_yes s a i hex hlt)
          have HNO := Lib.hid (@numTo_no s a i hex)
          have HCH := Lib.hid (numCh_iff s a i hex)
          generalize dval (bt s i) = x at *
          generalize bt s i = c at *
          generalize bt s (i - 1) = d at *
          go_upto_region 8 with (fail)
          go_cut [9, 62] (fun v9 v wx => v9 = .int .u8 (c : Int) ∧ v = .bool (p1B c x) ∧ wx = wc)
          case first =>
            clear hsl hsl2 hend hai hi yj hwi
            go_wp2_with (go_at_call 81; refine (CV.out _).mono ?_; rintro e w3 ⟨rfl, rfl⟩)
            all_goals (
              go_meet
              refine ⟨by first | rfl | (congr 1; omega), leafB _ _ ?_, rfl⟩
              rw [p1B_iff]
              unfold p1P
              first | omega | (simp; omega))
          case rest =>
            obtain ⟨rfl, rfl, rfl⟩ := hcut
            by_cases h1 : p1P c x
            · have hb1 : p1B c x = true := (p1B_iff c x).2 h1
              have HN : RowKit.Hid (numTo s a hex (i + 1) = E) := Lib.hid (by rw [← HYES.out (HCH.out.2 (chP_1 h1))]; exact HE.out)
              clear h1
              rw [hb1]
              clear hb1
              go_wp2_with fail
              go_round
              case rel => exact ⟨i + 1, by go_num, by omega, by omega, HN.out⟩
              case measure => simp [intOf]; omega
            · have hb1 : p1B c x = false := by rw [Bool.eq_false_iff]; exact fun h => h1 ((p1B_iff c x).1 h)
              have H1 := Lib.hid h1
              clear h1
              rw [hb1]
              clear hb1
              obtain ⟨o, ho⟩ : ∃ o : Int, o = if a < i then bits .or .u8 (d : Int) 32 else 0 := ⟨_, rfl⟩
              have HOO := Lib.hid ho
              clear ho
              go_upto_region 9 with (fail)
              by_cases hlast : a < i
              · have hlast' : (a : Int) < i := by omega
                have g1 := hwi hlast
                have yj2 := yj hlast
                have g2 : (0 : Int) ≤ (i : Int) - 1 := by omega
                have g3 : (i : Int) - 1 < s.size := by omega
                have hoo : bits .or .u8 (d : Int) 32 = o := by rw [HOO.out, if_pos hlast]
                clear hwi yj
                go_upto_region 12 with (fail)
                go_cut [7, 9, 10, 91] (fun v7 v9 v10 v wx => v7 = .bool hex ∧ v9 = .int .u8 (c : Int) ∧ v10 = .int .u8 o ∧ v = .bool (p2B c a i d hex) ∧ wx = wc)
                case first =>
                  clear hsl hsl2 hend hai hi
                  go_wp2_with fail
                  all_goals (
                    go_meet
                    refine ⟨by first | rfl | (congr 1; done) | (simp_all; done), by first | rfl | (congr 1; omega), by first | rfl | (congr 1; omega), leafB _ _ ?_, rfl⟩
                    have h1 := HO.out
                    have h2 := HOO.out
                    rw [p2B_iff]
                    unfold p2P
                    cases hex <;> by_cases hq : a < i <;> simp only [if_pos, if_neg, hq, if_true, if_false, Bool.false_eq_true, true_and, false_and] at h2 ⊢ <;> (first | omega | (simp; omega) | (simp_all; omega) | simp_all))
                case rest =>
                  obtain ⟨rfl, rfl, rfl, rfl, rfl⟩ := hcut
                  by_cases h2 : p2P c a i d hex
                  · have hb2 : p2B c a i d hex = true := (p2B_iff c a i d hex).2 h2
                    have HN : RowKit.Hid (numTo s a hex (i + 1) = E) := Lib.hid (by rw [← HYES.out (HCH.out.2 (chP_2 h2))]; exact HE.out)
                    clear h2
                    rw [hb2]
                    clear hb2
                    go_wp2_with fail
                    go_round
                    case rel => exact ⟨i + 1, by go_num, by omega, by omega, HN.out⟩
                    case measure => simp [intOf]; omega
                  · have hb2 : p2B c a i d hex = false := by rw [Bool.eq_false_iff]; exact fun h => h2 ((p2B_iff c a i d hex).1 h)
                    have hEi : E = i := by rw [← HE.out, HNO.out (fun h => (chP_or.1 (HCH.out.1 h.2)).elim H1.out h2)]
                    clear HE HYES HNO HCH h2
                    rw [hb2]
                    clear hb2
                    subst hEi
                    go_wp2_with fail
                    refine (CK.out _).mono ?_
                    rintro e w2 ⟨rfl, hb2⟩
                    have HB2 := Lib.hid hb2
                    clear hb2 hsl hsl2 hend HEND hai hi hi0
                    try clear hlt
                    try clear hlt'
                    by_cases hK : K = 0
                    · have hKb : ((K : Int) == 0) = true := by simp; omega
                      have HV2 : RowKit.Hid (numScan s a = (0, 0, 4)) := Lib.hid (by rw [HV.out, if_neg (by omega)])
                      clear HV hK
                      go_wp2_with fail
                      show Q (.returned (.tuple #[_, _, _])) _
                      exact HQ.out _ _ _ _ HV2.out HB2.out
                    · have hKb := nb K 0 hK
                      have hKb2 : ((K : Int) == 0) = false := hKb
                      have hKn : ¬ (K : Int) = 0 := by omega
                      have HV2 : RowKit.Hid (numScan s a = ((K : Int), (E : Int), 0)) := Lib.hid (by rw [HV.out, if_pos hK])
                      clear HV hK hKb
                      go_wp2_with fail
                      show Q (.returned (.tuple #[_, _, _])) _
                      exact HQ.out _ _ _ _ HV2.out HB2.out
              · have hlast' : ¬ (a : Int) < i := by omega
                have hoo : o = 0 := by rw [HOO.out, if_neg hlast]
                clear hwi yj
                go_upto_region 12 with (fail)
                go_cut [7, 9, 10, 91] (fun v7 v9 v10 v wx => v7 = .bool hex ∧ v9 = .int .u8 (c : Int) ∧ v10 = .int .u8 o ∧ v = .bool (p2B c a i d hex) ∧ wx = wc)
                case first =>
                  clear hsl hsl2 hend hai hi
                  go_wp2_with fail
                  all_goals (
                    go_meet
                    refine ⟨by first | rfl | (congr 1; done) | (simp_all; done), by first | rfl | (congr 1; omega), by first | rfl | (congr 1; omega), leafB _ _ ?_, rfl⟩
                    have h1 := HO.out
                    have h2 := HOO.out
                    rw [p2B_iff]
                    unfold p2P
                    cases hex <;> by_cases hq : a < i <;> simp only [if_pos, if_neg, hq, if_true, if_false, Bool.false_eq_true, true_and, false_and] at h2 ⊢ <;> (first | omega | (simp; omega) | (simp_all; omega) | simp_all))
                case rest =>
                  obtain ⟨rfl, rfl, rfl, rfl, rfl⟩ := hcut
                  by_cases h2 : p2P c a i d hex
                  · have hb2 : p2B c a i d hex = true := (p2B_iff c a i d hex).2 h2
                    have HN : RowKit.Hid (numTo s a hex (i + 1) = E) := Lib.hid (by rw [← HYES.out (HCH.out.2 (chP_2 h2))]; exact HE.out)
                    clear h2
                    rw [hb2]
                    clear hb2
                    go_wp2_with fail
                    go_round
                    case rel => exact ⟨i + 1, by go_num, by omega, by omega, HN.out⟩
                    case measure => simp [intOf]; omega
                  · have hb2 : p2B c a i d hex = false := by rw [Bool.eq_false_iff]; exact fun h => h2 ((p2B_iff c a i d hex).1 h)
                    have hEi : E = i := by rw [← HE.out, HNO.out (fun h => (chP_or.1 (HCH.out.1 h.2)).elim H1.out h2)]
                    clear HE HYES HNO HCH h2
                    rw [hb2]
                    clear hb2
                    subst hEi
                    go_wp2_with fail
                    refine (CK.out _).mono ?_
                    rintro e w2 ⟨rfl, hb2⟩
                    have HB2 := Lib.hid hb2
                    clear hb2 hsl hsl2 hend HEND hai hi hi0
                    try clear hlt
                    try clear hlt'
                    by_cases hK : K = 0
                    · have hKb : ((K : Int) == 0) = true := by simp; omega
                      have HV2 : RowKit.Hid (numScan s a = (0, 0, 4)) := Lib.hid (by rw [HV.out, if_neg (by omega)])
                      clear HV hK
                      go_wp2_with fail
                      show Q (.returned (.tuple #[_, _, _])) _
                      exact HQ.out _ _ _ _ HV2.out HB2.out
                    · have hKb := nb K 0 hK
                      have hKb2 : ((K : Int) == 0) = false := hKb
                      have hKn : ¬ (K : Int) = 0 := by omega
                      have HV2 : RowKit.Hid (numScan s a = ((K : Int), (E : Int), 0)) := Lib.hid (by rw [HV.out, if_pos hK])
                      clear HV hK hKb
                      go_wp2_with fail
                      show Q (.returned (.tuple #[_, _, _])) _
                      exact HQ.out _ _ _ _ HV2.out HB2.out
        · have hlt' : ¬ (i : Int) < s.size := by omega
          have hEi : E = i := by rw [← HE.out, numTo_no (fun h => hlt h.1)]
          clear HE
          subst hEi
          go_wp2_with fail
          refine (CK.out _).mono ?_
          rintro e w2 ⟨rfl, hb2⟩
          have HB2 := Lib.hid hb2
          clear hb2 hsl hsl2 hend HEND hai hi hi0
          try clear hlt
          try clear hlt'
          by_cases hK : K = 0
          · have hKb : ((K : Int) == 0) = true := by simp; omega
            have HV2 : RowKit.Hid (numScan s a = (0, 0, 4)) := Lib.hid (by rw [HV.out, if_neg (by omega)])
            clear HV hK
            go_wp2_with fail
            show Q (.returned (.tuple #[_, _, _])) _
            exact HQ.out _ _ _ _ HV2.out HB2.out
          · have hKb := nb K 0 hK
            have hKb2 : ((K : Int) == 0) = false := hKb
            have hKn : ¬ (K : Int) = 0 := by omega
            have HV2 : RowKit.Hid (numScan s a = ((K : Int), (E : Int), 0)) := Lib.hid (by rw [HV.out, if_pos hK])
            clear HV hK hKb
            go_wp2_with fail
            show Q (.returned (.tuple #[_, _, _])) _
            exact HQ.out _ _ _ _ HV2.out HB2.out
end Go.Proofs.YtelfobnmiphdnaaGreatDoor
