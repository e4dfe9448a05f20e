/- Layer 7: the document's Lexeme, walked. -/
import Derived.Test.YtcnkcnalabjhgaaGreatDoorRef07b
import Derived.Test.YtcnkcnalabjhgaaGreatDoorRef05g
import Derived.Test.YtcnkcnalabjhgaaGreatDoorRef06
namespace Go.Proofs.YtcnkcnalabjhgaaGreatDoor
set_option linter.all false
open Go.RowKit

theorem mark_ascii {c : Nat} (h : isMark c = true) : c = 39 ∨ c = 34 ∨ c = 96 := by
  unfold isMark at h; simp at h; omega
theorem num_semi {s : ByteArray} {i : Nat} (h : bt s i = 59) : numScan s i = (0, 0, 15) := by
  unfold numScan
  rw [Int.toNat_natCast, if_neg]
  intro g
  have := g.2
  unfold numBegins at this
  rw [h] at this
  simp [dval] at this
theorem begun_semi {s : ByteArray} {i : Nat} (hi : i < s.size) (h : bt s i = 59) : (begun s i).2.2.2 = 15 := by
  unfold begun
  rw [if_neg (by omega), Int.toNat_natCast, h, if_neg (by decide)]
attribute [local irreducible] Calls
set_option maxRecDepth 100000 in
set_option maxHeartbeats 16000000 in
theorem ref_Lexeme (s : ByteArray) (i : Nat) (hi : i < s.size) (hs : s.size ≤ 2147483647) (w : World) :
    Calls Tryz.prog 22 #[.string s, .int .i64 (i : Int)] w fun e w' => e = .returned (.tuple #[.int .u8 (lex s i).1, .int .i64 (lex s i).2]) ∧ Below w.heap.size w w' := by
  have HQ : RowKit.Hid (∀ w' a b, lex s i = (a, b) → Below w.heap.size w w' → (fun (e : Ending) w' => e = .returned (.tuple #[.int .u8 (lex s i).1, .int .i64 (lex s i).2]) ∧ Below w.heap.size w w') (.returned (.tuple #[.int .u8 a, .int .i64 b])) w') := Lib.hid fun w' a b h h2 => ⟨by rw [h], h2⟩
  have HL : RowKit.Hid (lex s i = if (rd s i).1 = 65279 then ((10 : Int), ((i + (rd s i).2 : Nat) : Int))
    else if blank (rd s i).1 then (10, (blankTo s i : Int))
    else if i + 1 < s.size ∧ bt s i = 47 ∧ bt s (i + 1) = 47 then (11, (lineTo s i : Int))
    else if i + 1 < s.size ∧ bt s i = 47 ∧ bt s (i + 1) = 42 then (match blockTo s (i + 2) with | some e => (12, (e : Int)) | none => (0, 0))
    else if letter (rd s i).1 then (if word (s.extract i (wordTo s i)) then (2, (wordTo s i : Int)) else (1, (wordTo s i : Int)))
    else if bt s i = 59 then (9, ((i + 1 : Nat) : Int))
    else if (numScan s i).2.2 ≠ 15 then ((numScan s i).1, (numScan s i).2.1)
    else if (begun s i).2.2.2 ≠ 15 then ((begun s i).1, (begun s i).2.1)
    else if 0 < signL (byts (s.extract i s.size)) then (8, ((i + signL (byts (s.extract i s.size)) : Nat) : Int)) else (0, 0)) := Lib.hid (by unfold lex; rfl)
  have HSEM := Lib.hid (fun h => And.intro (@num_semi s i h) (@begun_semi s i hi h))
  have CR := ref_Read s (i : Int) w (by omega)
  rw [rdI_nat] at CR
  have CR := Lib.hid CR
  have C0 := Lib.hid (fun w => ref_run0 s i (by omega) hs w)
  have C1 := Lib.hid (fun w => ref_run1 s i (by omega) hs w)
  have CH1 := Lib.hid (fun w => by have := ref_has s i ⟨#[47, 47]⟩ (by omega) hs (by decide) w; rw [has2 s i (by omega)] at this; exact this)
  have CH2 := Lib.hid (fun w => by have := ref_has s i ⟨#[47, 42]⟩ (by omega) hs (by decide) w; rw [has2 s i (by omega)] at this; exact this)
  have CH3 := Lib.hid (fun k (hk : k ≤ s.size) w => by have := ref_has s k ⟨#[42, 47]⟩ hk hs (by decide) w; rw [has2 s k hk] at this; exact this)
  have CHX := Lib.hid (fun (x : List UInt8) (hx : x.length ≤ 2147483647) w => by have := ref_has s i ⟨x.toArray⟩ (by omega) hs (by rw [size_of]; exact hx) w; rw [has_pre s i (by omega)] at this; exact this)
  have CB := Lib.hid (fun w => ref_Blank ((rd s i).1 : Int) w)
  have CL := Lib.hid (fun w => ref_Letter ((rd s i).1 : Int) w)
  have CW := Lib.hid (fun w => ref_Word (s.extract i (wordTo s i)) w)
  have CN := Lib.hid (fun w => ref_Scan05 s i hi hs w)
  have CQ := Lib.hid (fun w => ref_Scan06 s (i : Int) hs w)
  have CS := Lib.hid (fun w => ref_Signs w)
  have HWT := wordTo_le s i (by omega)
  have hrw := rd_width s i
  have yi := bt_at s i hi
  generalize (fun (e : Ending) w' => e = .returned (.tuple #[.int .u8 (lex s i).1, .int .i64 (lex s i).2]) ∧ Below w.heap.size w w') = Q at *
  generalize lex s i = V at *
  have hi' : (i : Int) < s.size := by omega
  have hi0 : (0 : Int) ≤ i := by omega
  generalize rd s i = d at *
  obtain ⟨r, n⟩ := d
  simp only [] at *
  by_cases c1 : r = 65279
  · have hwk : IntKind.i64.wrap ((i : Int) + (n : Int)) = ((i + n : Nat) : Int) := by rw [IntKind.wrap_i64]; omega
    have HF := Lib.hid (HL.out.trans (if_pos c1))
    clear HL
    subst c1
    go_enter Tryz.func22, Tryz.ntmps22
    go_wp2_with fail
    refine CR.out.mono ?_
    rintro e w1 ⟨rfl, hb1⟩
    go_wp2_with fail
    exact HQ.out _ _ _ HF.out hb1
  · replace HL := Lib.hid (HL.out.trans (if_neg c1))
    have c1b : ((r : Int) == 65279) = false := by rw [beq_eq_false_iff_ne]; omega
    clear c1
    go_enter Tryz.func22, Tryz.ntmps22
    go_wp2_with fail
    refine CR.out.mono ?_
    rintro e w1 ⟨rfl, hb1⟩
    have HB1 := Lib.hid hb1
    clear hb1 CR
    by_cases c2 : blank (r : Int) = true
    · have HF := Lib.hid (HL.out.trans (if_pos c2))
      rw [c2] at CB
      clear HL c2
      go_wp2_with fail
      refine (CB.out w1).mono ?_
      rintro e w2 ⟨rfl, rfl⟩
      go_wp2_with fail
      refine (C0.out w1).mono ?_
      rintro e w3 ⟨rfl, hb3⟩
      go_wp2_with fail
      exact HQ.out _ _ _ HF.out (bthen HB1.out hb3)
    · replace HL := Lib.hid (HL.out.trans (if_neg c2))
      have c2f : blank (r : Int) = false := by simpa using c2
      rw [c2f] at CB
      clear c2 c2f
      go_wp2_with fail
      refine (CB.out w1).mono ?_
      rintro e w2 ⟨rfl, rfl⟩
      go_wp2_with fail
      by_cases c3 : i + 1 < s.size ∧ bt s i = 47 ∧ bt s (i + 1) = 47
      · have HF := Lib.hid (HL.out.trans (if_pos c3))
        have CH1a := CH1.out w1
        rw [decide_eq_true (show i + 1 < s.size ∧ bt s i = (47 : UInt8).toNat ∧ bt s (i + 1) = (47 : UInt8).toNat from c3)] at CH1a
        have CH1a := Lib.hid CH1a
        clear HL c3 CH1
        refine CH1a.out.mono ?_
        rintro e w2 ⟨rfl, rfl⟩
        go_wp2_with fail
        generalize hV : lineTo s i = V' at *
        have HV := Lib.hid hV
        clear hV yi
        go_loopw [8] (fun v wr => ∃ k : Nat, v = .int .i64 k ∧ k ≤ s.size ∧ RowKit.Hid (lineTo s k = V') ∧ wr = w1) (fun v _ => s.size - (intOf v).toNat)
        case atStart => exact ⟨i, rfl, by omega, HV, rfl⟩
        case round =>
          obtain ⟨k, rfl, hk, HK, rfl⟩ := hrel
          by_cases hlt : k < s.size
          · have hlt' : (k : Int) < s.size := by omega
            have hk0 : (0 : Int) ≤ k := by omega
            have yk := bt_at s k hlt
            have hwk : IntKind.i64.wrap ((k : Int) + 1) = ((k + 1 : Nat) : Int) := by rw [IntKind.wrap_i64]; omega
            by_cases h10 : bt s k = 10
            · have HF2 : RowKit.Hid (V' = k) := Lib.hid (by rw [← HK.out, lineTo.eq_def s k, if_neg (fun g => g.2 h10)])
              rw [h10] at yk
              clear h10 HK
              go_wp2_with fail
              exact HQ.out _ _ _ (by rw [HF.out, HF2.out]) HB1.out
            · have HT2 : RowKit.Hid (lineTo s (k + 1) = V') := Lib.hid (by rw [← HK.out, lineTo.eq_def s k, if_pos ⟨hlt, h10⟩])
              have h10b : ((bt s k : Int) != 10) = true := by simp; omega
              clear h10 HK
              generalize bt s k = c at *
              go_wp2_with fail
              refine ⟨⟨k + 1, congrArg (Value.int .i64) (by omega), hlt, HT2, (by first | trivial | rfl)⟩, ?_⟩
              simp only [intOf]
              omega
          · have hlt' : ¬ (k : Int) < s.size := by omega
            have HF2 : RowKit.Hid (V' = k) := Lib.hid (by rw [← HK.out, lineTo.eq_def s k, if_neg (fun g => hlt g.1)])
            go_wp2_with fail
            exact HQ.out _ _ _ (by rw [HF.out, HF2.out]) HB1.out
      · replace HL := Lib.hid (HL.out.trans (if_neg c3))
        have CH1a := CH1.out w1
        rw [decide_eq_false (show ¬ (i + 1 < s.size ∧ bt s i = (47 : UInt8).toNat ∧ bt s (i + 1) = (47 : UInt8).toNat) from c3)] at CH1a
        have CH1a := Lib.hid CH1a
        clear c3 CH1
        refine CH1a.out.mono ?_
        rintro e w2 ⟨rfl, rfl⟩
        go_wp2_with fail
        by_cases c4 : i + 1 < s.size ∧ bt s i = 47 ∧ bt s (i + 1) = 42
        · have HF := Lib.hid (HL.out.trans (if_pos c4))
          have CH2a := CH2.out w1
          rw [decide_eq_true (show i + 1 < s.size ∧ bt s i = (47 : UInt8).toNat ∧ bt s (i + 1) = (42 : UInt8).toNat from c4)] at CH2a
          have CH2a := Lib.hid CH2a
          have hi2 : i + 2 ≤ s.size := by omega
          have hw2 : IntKind.i64.wrap ((i : Int) + 2) = ((i + 2 : Nat) : Int) := by rw [IntKind.wrap_i64]; omega
          clear HL c4 CH2
          refine CH2a.out.mono ?_
          rintro e w2 ⟨rfl, rfl⟩
          go_wp2_with fail
          generalize hV : blockTo s (i + 2) = V' at *
          have HV := Lib.hid hV
          clear hV yi
          go_loopw [9] (fun v wr => ∃ k : Nat, v = .int .i64 k ∧ k ≤ s.size ∧ RowKit.Hid (blockTo s k = V') ∧ wr = w1) (fun v _ => s.size - (intOf v).toNat)
          case atStart => exact ⟨i + 2, (by first | rfl | exact congrArg (Value.int .i64) (by omega)), hi2, HV, rfl⟩
          case round =>
            obtain ⟨k, rfl, hk, HK, rfl⟩ := hrel
            by_cases hlt : k < s.size
            · have hlt' : (k : Int) < s.size := by omega
              have hk0 : (0 : Int) ≤ k := by omega
              have hwk : IntKind.i64.wrap ((k : Int) + 1) = ((k + 1 : Nat) : Int) := by rw [IntKind.wrap_i64]; omega
              have hwk2 : IntKind.i64.wrap ((k : Int) + 2) = ((k + 2 : Nat) : Int) := by rw [IntKind.wrap_i64]; omega
              have C3k := CH3.out k hk wr
              by_cases hm : k + 1 < s.size ∧ bt s k = 42 ∧ bt s (k + 1) = 47
              · rw [decide_eq_true (show k + 1 < s.size ∧ bt s k = (42 : UInt8).toNat ∧ bt s (k + 1) = (47 : UInt8).toNat from hm)] at C3k
                have C3k := Lib.hid C3k
                have HF2 : RowKit.Hid (V' = some (k + 2)) := Lib.hid (by rw [← HK.out, blockTo.eq_def s k, if_pos hm.1, if_pos hm.2])
                clear hm HK
                go_wp2_with fail
                refine C3k.out.mono ?_
                rintro e w2 ⟨rfl, rfl⟩
                go_wp2_with fail
                exact HQ.out _ _ _ (by rw [HF.out, HF2.out]; rfl) HB1.out
              · rw [decide_eq_false (show ¬ (k + 1 < s.size ∧ bt s k = (42 : UInt8).toNat ∧ bt s (k + 1) = (47 : UInt8).toNat) from hm)] at C3k
                have C3k := Lib.hid C3k
                have HT2 : RowKit.Hid (blockTo s (k + 1) = V') := Lib.hid (by
                  rw [← HK.out, blockTo.eq_def s k]
                  by_cases g : k + 1 < s.size
                  · rw [if_pos g, if_neg (fun q => hm ⟨g, q⟩)]
                  · rw [if_neg g, blockTo.eq_def s (k + 1), if_neg (by omega)])
                clear hm HK
                go_wp2_with fail
                refine C3k.out.mono ?_
                rintro e w2 ⟨rfl, rfl⟩
                go_wp2_with fail
                refine ⟨⟨k + 1, congrArg (Value.int .i64) (by omega), hlt, HT2, (by first | trivial | rfl)⟩, ?_⟩
                simp only [intOf]
                omega
            · have hlt' : ¬ (k : Int) < s.size := by omega
              have HF2 : RowKit.Hid (V' = none) := Lib.hid (by rw [← HK.out, blockTo.eq_def s k, if_neg (by omega)])
              go_wp2_with fail
              exact HQ.out _ _ _ (by rw [HF.out, HF2.out]) HB1.out
        · replace HL := Lib.hid (HL.out.trans (if_neg c4))
          have CH2a := CH2.out w1
          rw [decide_eq_false (show ¬ (i + 1 < s.size ∧ bt s i = (47 : UInt8).toNat ∧ bt s (i + 1) = (42 : UInt8).toNat) from c4)] at CH2a
          have CH2a := Lib.hid CH2a
          clear c4 CH2
          refine CH2a.out.mono ?_
          rintro e w2 ⟨rfl, rfl⟩
          by_cases c5 : letter (r : Int) = true
          · have HF := Lib.hid (HL.out.trans (if_pos c5))
            rw [c5] at CL
            have q1 : (i : Int) ≤ (wordTo s i : Nat) := by omega
            have q2 : ((wordTo s i : Nat) : Int) ≤ s.size := by omega
            clear HL c5 HWT
            generalize hWt : wordTo s i = wt at *
            clear hWt
            generalize word (s.extract i wt) = wb at *
            cases wb
            all_goals
              go_wp2_with fail
              refine (CL.out w1).mono ?_
              rintro e w2 ⟨rfl, hb2⟩
              have HB2 := Lib.hid (bthen HB1.out hb2)
              clear hb2
              go_wp2_with fail
              refine (C1.out w2).mono ?_
              rintro e w3 ⟨rfl, hb3⟩
              have HB3 := Lib.hid (bthen HB2.out hb3)
              clear hb3
              go_wp2_with fail
              refine (CW.out w3).mono ?_
              rintro e w4 ⟨rfl, hb4⟩
              have HB4 := Lib.hid (bthen HB3.out hb4)
              clear hb4
              go_wp2_with fail
              exact HQ.out _ _ _ HF.out HB4.out
          · replace HL := Lib.hid (HL.out.trans (if_neg c5))
            have c5f : letter (r : Int) = false := by simpa using c5
            rw [c5f] at CL
            clear c5 c5f
            go_wp2_with fail
            refine (CL.out w1).mono ?_
            rintro e w2 ⟨rfl, hb2⟩
            have HB2 := Lib.hid (bthen HB1.out hb2)
            clear hb2 HB1
            have hwk1 : IntKind.i64.wrap ((i : Int) + 1) = ((i + 1 : Nat) : Int) := by rw [IntKind.wrap_i64]; omega
            by_cases c6 : bt s i = 59
            · have HF := Lib.hid (HL.out.trans (if_pos c6))
              obtain ⟨n1, n2⟩ := HSEM.out c6
              rw [n1] at CN
              rw [c6] at yi
              clear HL HSEM n1 c6
              go_wp2_with fail
              refine (CN.out w2).mono ?_
              rintro e w3 ⟨rfl, rfl⟩
              go_wp2_with fail
              refine (CQ.out w2).mono ?_
              intro e w3 h3
              unfold scanPost at h3
              rw [n2] at h3
              obtain ⟨rfl, hb3⟩ := h3
              clear n2
              go_wp2_with fail
              exact HQ.out _ _ _ HF.out (bthen HB2.out hb3)
            · replace HL := Lib.hid (HL.out.trans (if_neg c6))
              have c6b : ((bt s i : Int) == 59) = false := by rw [beq_eq_false_iff_ne]; omega
              clear HSEM c6
              generalize numScan s i = q at *
              obtain ⟨qa, qb, qc⟩ := q
              simp only [] at *
              by_cases c7 : qc = 15
              · subst c7
                replace HL := Lib.hid (HL.out.trans (if_neg (by decide)))
                go_wp2_with fail
                refine (CN.out w2).mono ?_
                rintro e w3 ⟨rfl, rfl⟩
                go_wp2_with fail
                refine (CQ.out w2).mono ?_
                intro e w3 h3
                unfold scanPost at h3
                generalize begun s i = p at *
                obtain ⟨pa, pb, pv, pc⟩ := p
                simp only [] at *
                obtain ⟨rfl, hb3⟩ := h3
                have HB3 := Lib.hid (bthen HB2.out hb3)
                clear hb3 HB2
                by_cases c8 : pc = 15
                · subst c8
                  replace HL := Lib.hid (HL.out.trans (if_neg (by decide)))
                  generalize bt s i = c at *
                  go_wp2_with fail
                  refine (CS.out w3).mono ?_
                  rintro e w4 ⟨rfl, rfl⟩
                  have HB4 := Lib.hid (HB3.out.alloc HB3.out.size (.cells signVals 9))
                  have hcell : ∀ j, (w3.alloc (.cells signVals 9)).cell? ⟨w3.heap.size, j, none⟩ = signVals[j]? := fun j => World.cell?_alloc_at _ _ _ _ rfl
                  have HCL := Lib.hid hcell
                  have HAT := Lib.hid signVals_at
                  have HBS := Lib.hid (best_sign (byts (s.extract i s.size)))
                  have HBN := Lib.hid (best_next (byts (s.extract i s.size)))
                  have HB0 : RowKit.Hid (bestF (byts (s.extract i s.size)) (signsN.take 0) 0 = 0) := Lib.hid rfl
                  have HTK : RowKit.Hid (signsN.take 47 = signsN) := Lib.hid rfl
                  have HLN : RowKit.Hid (∀ k, k < 47 → (signsR.getD k []).length ≤ 3) := Lib.hid (by decide +kernel)
                  have hss : s.size - i ≤ 2147483647 := by omega
                  clear hcell HB3
                  generalize byts (s.extract i s.size) = bs at *
                  generalize signVals = CC at *
                  have hW : w3.heap.size < (w3.alloc (.cells CC 9)).heap.size := by simp
                  generalize w3.alloc (.cells CC 9) = W at *
                  go_wp2_with fail
                  go_loopw [14, 16] (fun b v wr => ∃ k m : Nat, v = .int .i64 k ∧ b = .int .i64 m ∧ k ≤ 47 ∧ m ≤ 3 ∧ RowKit.Hid (bestF bs (signsN.take k) 0 = m) ∧ wr = W) (fun _ v _ => 47 - (intOf v).toNat)
                  case atStart => exact ⟨0, 0, rfl, rfl, Nat.zero_le _, Nat.zero_le _, HB0, rfl⟩
                  case round =>
                    obtain ⟨k, m, rfl, rfl, hk, hm, HK, rfl⟩ := hrel
                    by_cases hlt : k < 47
                    · have hlt' : (k : Int) < 47 := by omega
                      have hk0 : (0 : Int) ≤ k := by omega
                      have hwk : IntKind.i64.wrap ((k : Int) + 1) = ((k + 1 : Nat) : Int) := by rw [IntKind.wrap_i64]; omega
                      have h0 : wr.cell? ⟨w3.heap.size, k, none⟩ = some (.string ⟨(signsR.getD k []).toArray⟩) := by rw [HCL.out, HAT.out k hlt]
                      have hn3 := HLN.out k hlt
                      have hst := HBN.out k hlt
                      rw [HK.out] at hst
                      generalize signsR.getD k [] = x at *
                      have CXx := CHX.out x (by omega) wr
                      have hzx := size_of x
                      have hml : (x.map fun b => b.toNat).length = x.length := List.length_map _
                      unfold bestStep at hst
                      rw [hml] at hst
                      have hx3 : (x.length : Int) ≤ 3 := by omega
                      by_cases hp : bs.take x.length = x.map fun b => b.toNat
                      · rw [decide_eq_true hp] at CXx
                        have CXx := Lib.hid CXx
                        by_cases hgt : m < x.length
                        · have hgt' : (m : Int) < x.length := by omega
                          have HN := Lib.hid (hst.trans (if_pos ⟨hp, hgt⟩))
                          clear hst HK hp hgt
                          go_wp2_with fail
                          refine CXx.out.mono ?_
                          rintro e w5 ⟨rfl, rfl⟩
                          go_wp2_with fail
                          refine ⟨⟨k + 1, x.length, congrArg (Value.int .i64) (by omega), rfl, hlt, hn3, HN, (by first | trivial | rfl)⟩, ?_⟩
                          simp only [intOf]
                          omega
                        · have hgt' : ¬ (m : Int) < x.length := by omega
                          have HN := Lib.hid (hst.trans (if_neg (fun g => hgt g.2)))
                          clear hst HK hp hgt
                          go_wp2_with fail
                          refine CXx.out.mono ?_
                          rintro e w5 ⟨rfl, rfl⟩
                          go_wp2_with fail
                          refine ⟨⟨k + 1, m, congrArg (Value.int .i64) (by omega), rfl, hlt, hm, HN, (by first | trivial | rfl)⟩, ?_⟩
                          simp only [intOf]
                          omega
                      · rw [decide_eq_false hp] at CXx
                        have CXx := Lib.hid CXx
                        have HN := Lib.hid (hst.trans (if_neg (fun g => hp g.1)))
                        clear hst HK hp
                        go_wp2_with fail
                        refine CXx.out.mono ?_
                        rintro e w5 ⟨rfl, rfl⟩
                        go_wp2_with fail
                        refine ⟨⟨k + 1, m, congrArg (Value.int .i64) (by omega), rfl, hlt, hm, HN, (by first | trivial | rfl)⟩, ?_⟩
                        simp only [intOf]
                        omega
                    · have hlt' : ¬ (k : Int) < 47 := by omega
                      obtain rfl : k = 47 := by omega
                      have hsl : signL bs = m := by rw [← HBS.out, ← HTK.out]; exact HK.out
                      rw [hsl] at HL
                      have hwm : IntKind.i64.wrap ((i : Int) + (m : Int)) = ((i + m : Nat) : Int) := by rw [IntKind.wrap_i64]; omega
                      clear hsl HK
                      by_cases hm0 : m = 0
                      · subst hm0
                        have HF := Lib.hid (HL.out.trans (if_neg (by decide)))
                        go_wp2_with fail
                        exact HQ.out _ _ _ HF.out HB4.out
                      · have HF := Lib.hid (HL.out.trans (if_pos (by omega)))
                        have hm0b : ((m : Int) == 0) = false := by rw [beq_eq_false_iff_ne]; omega
                        go_wp2_with fail
                        exact HQ.out _ _ _ HF.out HB4.out
                · have HF := Lib.hid (HL.out.trans (if_pos c8))
                  have c8b : (pc != 15) = true := by simpa using c8
                  clear c8
                  go_wp2_with fail
                  exact HQ.out _ _ _ HF.out HB3.out
              · have HF := Lib.hid (HL.out.trans (if_pos c7))
                have c7b : (qc != 15) = true := by simpa using c7
                clear c7
                go_wp2_with fail
                refine (CN.out w2).mono ?_
                rintro e w3 ⟨rfl, rfl⟩
                go_wp2_with fail
                exact HQ.out _ _ _ HF.out HB2.out
end Go.Proofs.YtcnkcnalabjhgaaGreatDoor
