/- Layer 7: the program's functions, walked: kind. -/
import Derived.Test.YtelfobnmiphdnaaGreatDoorScan3
import Derived.Test.YtelfobnmiphdnaaGreatDoorNum5
import Derived.Test.YtelfobnmiphdnaaGreatDoorQuoted6
import Derived.Test.YtelfobnmiphdnaaGreatDoorLexP
namespace Go.Proofs.YtelfobnmiphdnaaGreatDoor
set_option linter.all false
open Go.RowKit

theorem extract_two (s : ByteArray) (a : Nat) (h : a + 2 ≤ s.size) (w : World) :
    (Instr.slice 9 (.string (s.extract a s.size)) (some (.int .i64 2)) none none).run Tryz.prog w = .ok (.string (s.extract (a + 2) s.size)) w := by
  have := slice_from1 (s.extract a s.size) 2 2 rfl (by rw [ByteArray.size_extract]; omega) w
  have e : (s.extract a s.size).extract 2 (s.extract a s.size).size = s.extract (a + 2) s.size := by
    apply ByteArray.ext
    apply Array.ext'
    rw [extract_tail, extract_tail, extract_tail, List.drop_drop]
  rw [this, e]
theorem blanks_ascii : ∀ (j : Nat) b, (⟨#[32, 9, 13, 10]⟩ : ByteArray).data.toList[j]? = some b → b.toNat < 128 := by
  intro j b h
  have : b ∈ ([32, 9, 13, 10] : List UInt8) := List.mem_of_getElem? h
  simp at this
  rcases this with rfl | rfl | rfl | rfl <;> decide
@[irreducible] def kindPost (s : ByteArray) (a : Nat) (w0 : World) (e : Ending) (w' : World) : Prop :=
  e = .returned (.tuple #[.int .u8 (lex s a).1, .int .i64 (lex s a).2]) ∧ Below w0.heap.size w0 w'
set_option maxRecDepth 100000 in
set_option maxHeartbeats 8000000 in
theorem scan_kind (s : ByteArray) (a : Nat) (ha : a < s.size) (hs : s.size ≤ 2147483647) (w : World) (hT : Tabs w) (hM : MaxC w) :
    Calls Tryz.prog 39 #[.string s, .int .i64 (a : Int)] w (kindPost s a w) := by
  have HQ : RowKit.Hid (∀ w' k t, lex s a = (k, t) → Below w.heap.size w w' → kindPost s a w (.returned (.tuple #[.int .u8 k, .int .i64 t])) w') := Lib.hid fun w' k t h h2 => by
    unfold kindPost; rw [h]; exact ⟨rfl, h2⟩
  have HV : RowKit.Hid (lex s a = _) := Lib.hid (by unfold lex; rfl)
  generalize kindPost s a w = Q at *
  have hrest := slice_from1 s (a : Int) a rfl (by omega)
  have hrz : (s.extract a s.size).size = s.size - a := by rw [ByteArray.size_extract]; omega
  have CR := runes_Read s a w hT
  rw [rdI_nat] at CR
  have hrw := rd_width s a
  have hrl := rd_le s a
  have HSM := Lib.hid (@rd_small s a)
  have HAS := Lib.hid (@rd_ascii s a ha)
  have CTL := Lib.hid (fun w => Tryz.strings_TrimLeft_set (s.extract a s.size) ⟨#[32, 9, 13, 10]⟩ w (by decide) blanks_ascii)
  have CP1 : RowKit.Hid (∀ w, Calls Tryz.prog 52 #[.string (s.extract a s.size), .string ⟨#[47, 47]⟩] w fun e w' => e = .returned (.bool (decide (a + 1 < s.size ∧ bt s a = 47 ∧ bt s (a + 1) = 47))) ∧ w' = w) := Lib.hid fun w => by
    have := Tryz.strings_HasPrefix (s.extract a s.size) ⟨#[47, 47]⟩ w
    rw [show (⟨#[47, 47]⟩ : ByteArray).data.toList = [47, 47] from rfl, prefix2 s a 47 47] at this
    exact this
  have CP2 : RowKit.Hid (∀ w, Calls Tryz.prog 52 #[.string (s.extract a s.size), .string ⟨#[47, 42]⟩] w fun e w' => e = .returned (.bool (decide (a + 1 < s.size ∧ bt s a = 47 ∧ bt s (a + 1) = 42))) ∧ w' = w) := Lib.hid fun w => by
    have := Tryz.strings_HasPrefix (s.extract a s.size) ⟨#[47, 42]⟩ w
    rw [show (⟨#[47, 42]⟩ : ByteArray).data.toList = [47, 42] from rfl, prefix2 s a 47 42] at this
    exact this
  have CIB : RowKit.Hid (∀ w, Calls Tryz.prog 53 #[.string (s.extract a s.size), .int .u8 10] w fun e w' => e = .returned (.int .i64 (Lib.indexByte (s.extract a s.size).data.toList 10)) ∧ w' = w) := Lib.hid fun w => Tryz.strings_IndexByte (s.extract a s.size) 10 w
  have CIX : RowKit.Hid (∀ w', Below w.heap.size w w' → Calls Tryz.prog 28 #[.string (s.extract (a + 2) s.size), .string ⟨#[42, 47]⟩] w' fun e w'' => e = .returned (.int .i64 (Lib.index (s.extract (a + 2) s.size).data.toList [42, 47])) ∧ w'' = w') := Lib.hid fun w' hb => by
    obtain ⟨m, hm, _⟩ := hM.below hb
    exact Tryz.strings_Index (s.extract (a + 2) s.size) ⟨#[42, 47]⟩ m w' (by rw [ByteArray.size_extract]; omega) hm
  have CWD := Lib.hid (fun w => scan_word s a (by omega) hs w)
  have CNU := Lib.hid (fun w => number_Scan s a w hs)
  have CQU := Lib.hid (fun w' (hb : Below w.heap.size w w') => quoted_Scan s a w' (hT.below hb) (hM.below hb) hs)
  have CSG : RowKit.Hid (∀ w, Calls Tryz.prog 58 #[.string (s.extract a s.size)] w fun e w' => e = .returned (.int .i64 (signL (byts (s.extract a s.size)) : Nat)) ∧ w = w') := Lib.hid fun w => scan_sign (s.extract a s.size) (by omega) w
  have HBT := Lib.hid (blank_trim s a (by omega))
  have HLI := Lib.hid (line_index s a (by omega))
  have HBI := Lib.hid (fun h => block_index s (a + 2) h)
  have HX2 := Lib.hid (fun h w => extract_two s a h w)
  have hsg : signL (byts (s.extract a s.size)) ≤ 3 := by unfold signL; split <;> (try split) <;> (try split) <;> omega
  have hib := index_small 10 (s.extract a s.size).data.toList
  have hibg := Lib.indexByte_ge (s.extract a s.size).data.toList 10
  rw [← size_data] at hib
  generalize rd s a = q at *
  obtain ⟨r, n⟩ := q
  simp only [] at *
  have CRh := Lib.hid CR
  have HRZ := Lib.hid hrz
  clear CR hrz
  have CB := Lib.hid (fun w => class_Blank (r : Int) w)
  have CL := Lib.hid (fun w => class_Letter (r : Int) w)
  go_enter Tryz.func39, Tryz.ntmps39
  go_wp2_with fail
  refine CRh.out.mono ?_
  rintro e w1 ⟨rfl, hb1⟩
  have HB1 := Lib.hid hb1
  clear hb1
  by_cases hmk : r = 65279
  · subst hmk
    rw [if_pos rfl] at HV
    have hn : IntKind.i64.wrap ((a : Int) + n) = (a : Int) + n := by rw [IntKind.wrap_i64]; omega
    go_wp2_with fail
    show Q (.returned (.tuple #[_, _])) _
    exact HQ.out _ _ _ (by rw [HV.out]; congr 1) HB1.out
  · have hmk1 : ((r : Int) == 65279) = false := by rw [beq_eq_false_iff_ne]; omega
    have hmk2 : ¬ (r : Int) = 65279 := by omega
    rw [if_neg hmk] at HV
    clear hmk
    go_wp2_with fail
    refine (CB.out _).mono ?_
    rintro e w2 ⟨rfl, rfl⟩
    cases hbl : blank (r : Int) with
    | true =>
      rw [hbl, if_pos rfl] at HV
      clear hbl
      have hbl2 := blankTo_le s a (by omega)
      go_wp2_with fail
      refine (CTL.out _).mono ?_
      rintro e w2 ⟨rfl, hb2⟩
      have HB2 := Lib.hid (bthen HB1.out hb2)
      clear hb2
      have hz : (⟨(Lib.trimLeftS (s.extract a s.size).data.toList (⟨#[32, 9, 13, 10]⟩ : ByteArray).data.toList).toArray⟩ : ByteArray).size + blankTo s a = s.size := by
        rw [size_data]; simpa [blanks] using HBT.out
      generalize (⟨(Lib.trimLeftS (s.extract a s.size).data.toList (⟨#[32, 9, 13, 10]⟩ : ByteArray).data.toList).toArray⟩ : ByteArray) = t at *
      have hzi : (s.size : Int) - t.size = (blankTo s a : Int) := by omega
      have HZI := Lib.hid hzi
      have hzl : (t.size : Int) ≤ s.size := by omega
      have hw : IntKind.i64.wrap ((s.size : Int) - t.size) = (s.size : Int) - t.size := by rw [IntKind.wrap_i64]; omega
      clear hz hzi
      go_wp2_with fail
      show Q (.returned (.tuple #[_, _])) _
      exact HQ.out _ _ _ (by rw [HV.out, ← HZI.out]) HB2.out
    | false =>
      rw [hbl, if_neg (by simp)] at HV
      clear hbl
      go_wp2_with fail
      refine (CP1.out _).mono ?_
      rintro e w2 ⟨rfl, rfl⟩
      by_cases hp1 : a + 1 < s.size ∧ bt s a = 47 ∧ bt s (a + 1) = 47
      · rw [if_pos hp1, HLI.out] at HV
        rw [decide_eq_true hp1]
        clear hp1
        go_wp2_with fail
        refine (CIB.out _).mono ?_
        rintro e w2 ⟨rfl, rfl⟩
        generalize Lib.indexByte (s.extract a s.size).data.toList 10 = j at *
        have HRZ2 := HRZ.out
        rw [HRZ2] at hib
        clear HRZ2
        by_cases hj : j < 0
        · rw [if_pos hj] at HV
          have hj' : ¬ (0 : Int) ≤ j := by omega
          clear hib hibg
          go_wp2_with fail
          show Q (.returned (.tuple #[_, _])) _
          exact HQ.out _ _ _ HV.out HB1.out
        · rw [if_neg hj] at HV
          have hj' : (0 : Int) ≤ j := by omega
          have hw : IntKind.i64.wrap ((a : Int) + j) = (a : Int) + j := by rw [IntKind.wrap_i64]; omega
          have hval : ((a + j.toNat : Nat) : Int) = (a : Int) + j := by omega
          rw [hval] at HV
          clear hval hj hib hibg
          go_wp2_with fail
          show Q (.returned (.tuple #[_, _])) _
          exact HQ.out _ _ _ HV.out HB1.out
      · rw [if_neg hp1] at HV
        rw [decide_eq_false hp1]
        clear hp1
        go_wp2_with fail
        refine (CP2.out _).mono ?_
        rintro e w2 ⟨rfl, rfl⟩
        by_cases hp2 : a + 1 < s.size ∧ bt s a = 47 ∧ bt s (a + 1) = 42
        · rw [if_pos hp2] at HV
          rw [decide_eq_true hp2]
          have hx2 := HX2.out (by omega)
          have hbi := HBI.out (by omega)
          have hig := Lib.index_ge (s.extract (a + 2) s.size).data.toList [42, 47]
          have hbl := blockTo_le s (a + 2)
          clear hp2
          rw [hbi] at HV hbl
          clear hbi
          go_wp2_with fail
          refine (CIX.out _ HB1.out).mono ?_
          rintro e w2 ⟨rfl, rfl⟩
          generalize Lib.index (s.extract (a + 2) s.size).data.toList [42, 47] = j at *
          by_cases hj : j < 0
          · rw [if_pos hj] at HV
            have hj' : ¬ (0 : Int) ≤ j := by omega
            clear hig hbl
            go_wp2_with fail
            show Q (.returned (.tuple #[_, _])) _
            exact HQ.out _ _ _ HV.out HB1.out
          · rw [if_neg hj] at HV hbl
            have hj' : (0 : Int) ≤ j := by omega
            have hle := hbl _ rfl
            have hw : IntKind.i64.wrap ((a : Int) + j) = (a : Int) + j := by rw [IntKind.wrap_i64]; omega
            have hw2 : IntKind.i64.wrap ((a : Int) + j + 4) = (a : Int) + j + 4 := by rw [IntKind.wrap_i64]; omega
            have hval : ((a + 2 + j.toNat + 2 : Nat) : Int) = (a : Int) + j + 4 := by omega
            simp only [hval] at HV
            clear hval hj hig hbl hle
            go_wp2_with fail
            show Q (.returned (.tuple #[_, _])) _
            exact HQ.out _ _ _ HV.out HB1.out
        · rw [if_neg hp2] at HV
          rw [decide_eq_false hp2]
          clear hp2
          go_wp2_with fail
          refine (CL.out _).mono ?_
          rintro e w2 ⟨rfl, hb2⟩
          have HB2 := Lib.hid (bthen HB1.out hb2)
          clear hb2
          cases hlt : letter (r : Int) with
          | true =>
            rw [hlt, if_pos rfl] at HV
            clear hlt
            go_wp2_with fail
            refine (CWD.out _).mono ?_
            intro e w3 h3
            unfold wordPost at h3
            obtain ⟨rfl, hb3⟩ := h3
            have HB3 := Lib.hid (bthen HB2.out hb3)
            clear hb3
            cases hw : word (s.extract a (wordTo s a)) with
            | true =>
              rw [hw, if_pos rfl] at HV
              rw [if_pos rfl]
              clear hw
              go_wp2_with fail
              show Q (.returned (.tuple #[_, _])) _
              exact HQ.out _ _ _ HV.out HB3.out
            | false =>
              rw [hw, if_neg (by simp)] at HV
              rw [if_neg (by simp)]
              clear hw
              go_wp2_with fail
              show Q (.returned (.tuple #[_, _])) _
              exact HQ.out _ _ _ HV.out HB3.out
          | false =>
            rw [hlt, if_neg (by simp)] at HV
            clear hlt
            by_cases h59 : r = 59
            · subst h59
              have hbt : bt s a = 59 := HSM.out (by simp) (by simp)
              rw [if_pos hbt] at HV
              have hval : ((a + 1 : Nat) : Int) = (a : Int) + 1 := by omega
              rw [hval] at HV
              clear hbt hval
              go_wp2_with fail
              show Q (.returned (.tuple #[_, _])) _
              exact HQ.out _ _ _ HV.out HB2.out
            · have hbt : ¬ bt s a = 59 := fun h => by
                have := HAS.out (by omega)
                rw [h] at this
                simp at this
                omega
              rw [if_neg hbt] at HV
              have h591 : ((r : Int) == 59) = false := by rw [beq_eq_false_iff_ne]; omega
              have h592 : ¬ (r : Int) = 59 := by omega
              clear hbt h59
              go_wp2_with fail
              refine (CNU.out _).mono ?_
              intro e w3 h3
              unfold scan5Post at h3
              obtain ⟨rfl, hb3⟩ := h3
              have HB3 := Lib.hid (bthen HB2.out hb3)
              clear hb3
              generalize numScan s a = q at *
              obtain ⟨k, t, er⟩ := q
              simp only [] at *
              by_cases her : er = 15
              · subst her
                rw [if_neg (by simp)] at HV
                go_wp2_with fail
                refine (CQU.out _ HB3.out).mono ?_
                intro e w4 h4
                unfold scanPost at h4
                obtain ⟨rfl, hb4⟩ := h4
                have HB4 := Lib.hid (bthen HB3.out hb4)
                clear hb4
                generalize begun s a = q at *
                obtain ⟨k2, t2, v2, er2⟩ := q
                simp only [] at *
                by_cases her2 : er2 = 15
                · subst her2
                  rw [if_neg (by simp)] at HV
                  go_wp2_with fail
                  refine (CSG.out _).mono ?_
                  rintro e w5 ⟨rfl, rfl⟩
                  generalize signL (byts (s.extract a s.size)) = g at *
                  by_cases hg : 0 < g
                  · rw [if_pos hg] at HV
                    have hg' : (0 : Int) < g := by omega
                    have hw : IntKind.i64.wrap ((a : Int) + g) = (a : Int) + g := by rw [IntKind.wrap_i64]; omega
                    have hval : ((a + g : Nat) : Int) = (a : Int) + g := by omega
                    rw [hval] at HV
                    clear hg hval hsg
                    go_wp2_with fail
                    show Q (.returned (.tuple #[_, _])) _
                    exact HQ.out _ _ _ HV.out HB4.out
                  · rw [if_neg hg] at HV
                    have hg' : ¬ (0 : Int) < g := by omega
                    clear hg hsg
                    go_wp2_with fail
                    show Q (.returned (.tuple #[_, _])) _
                    exact HQ.out _ _ _ HV.out HB4.out
                · rw [if_pos her2] at HV
                  have her3 : (er2 == 15) = false := by rw [beq_eq_false_iff_ne]; exact her2
                  go_wp2_with fail
                  show Q (.returned (.tuple #[_, _])) _
                  exact HQ.out _ _ _ HV.out HB4.out
              · rw [if_pos her] at HV
                have her3 : (er == 15) = false := by rw [beq_eq_false_iff_ne]; exact her
                go_wp2_with fail
                show Q (.returned (.tuple #[_, _])) _
                exact HQ.out _ _ _ HV.out HB3.out
end Go.Proofs.YtelfobnmiphdnaaGreatDoor
