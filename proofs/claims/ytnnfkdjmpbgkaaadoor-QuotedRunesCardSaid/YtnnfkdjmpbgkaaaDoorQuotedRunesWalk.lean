/- The statement QuotedRunes, walked: the call returns true. -/
import Derived.Test.YtnnfkdjmpbgkaaaDoorLaw06b
namespace Go.Proofs.YtnnfkdjmpbgkaaaDoor
set_option linter.all false
open Go.RowKit
attribute [local irreducible] wpStill
theorem mk_eq (l : List Int) (d : Array UInt8) (h : (l.map fun x => UInt8.ofNat x.toNat) = d.toList) : (⟨d⟩ : ByteArray) = strOfNums l := by
  apply ByteArray.ext
  apply Array.ext'
  rw [strOfNums_data, h]
theorem marked_esc39 (l : List Int) : (⟨#[39, 92, 85]⟩ : ByteArray) ++ strOfNums l ++ ⟨#[39]⟩ = marked 39 ([92, 85] ++ l) := by
  rw [mk_eq [39, 92, 85] #[39, 92, 85] rfl, mk_eq [39] #[39] rfl, ← strOfNums_append, ← strOfNums_append]
  unfold marked
  congr 1
theorem marked_esc34 (l : List Int) : (⟨#[34, 92, 85]⟩ : ByteArray) ++ strOfNums l ++ ⟨#[34]⟩ = marked 34 ([92, 85] ++ l) := by
  rw [mk_eq [34, 92, 85] #[34, 92, 85] rfl, mk_eq [34] #[34] rfl, ← strOfNums_append, ← strOfNums_append]
  unfold marked
  congr 1
theorem marked_self (l : List Int) : (⟨#[39]⟩ : ByteArray) ++ strOfNums l ++ ⟨#[39]⟩ = marked 39 l := by
  rw [mk_eq [39] #[39] rfl, ← strOfNums_append, ← strOfNums_append]
  rfl
set_option maxRecDepth 100000 in
set_option maxHeartbeats 600000 in
theorem QuotedRunes_walk (r : Int) (hr : (Lit.int .i32 r).wf = true) (w : World) (_ : True) (hT : Tabs w) (hM : MaxC w) :
    Calls Tryd.prog 8 #[.int .i32 r] w fun e w' => e = .returned (.bool true) ∧ Below w.heap.size w w' := by
  have hr32 : -2147483648 ≤ r ∧ r ≤ 2147483647 := bounds_i32 hr
  have HQ : RowKit.Hid (∀ w', Below w.heap.size w w' → (fun (e : Ending) w' => e = .returned (.bool true) ∧ Below w.heap.size w w') (.returned (.bool true)) w') := Lib.hid fun w' h => ⟨rfl, h⟩
  generalize (fun (e : Ending) w' => e = .returned (.bool true) ∧ Below w.heap.size w w') = Q at *
  clear hr
  have hw64 : IntKind.i64.wrap r = r := by rw [IntKind.wrap_i64]; omega
  have CF := Lib.hid (ref_Form r)
  have CX := Lib.hid (fun w' (hb : Below w.heap.size w w') => law06_fixed w' (hT.below hb) (hM.below hb))
  have CV := Lib.hid (fun (t : ByteArray) (ht : t.size ≤ 2147483647) w' (hb : Below w.heap.size w w') => quoted_Value t w' (hT.below hb) (hM.below hb) ht)
  obtain ⟨n, hn, hn32⟩ : ∃ n : Nat, (n : Int) = r % 4294967296 ∧ n < 4294967296 := ⟨(r % 4294967296).toNat, by omega, by omega⟩
  have CH := Lib.hid (law06_hex n hn32)
  have HN := Lib.hid hn
  have hbl : ∀ x ∈ hexS 8 n, 0 ≤ x ∧ x < 256 := hexS_byte 8 n
  have hb2 : ∀ x ∈ ([92, 85] : List Int) ++ hexS 8 n, 0 ≤ x ∧ x < 256 := by
    intro x hx
    rcases List.mem_append.1 hx with hx | hx
    · simp at hx; omega
    · exact hbl x hx
  have hl10 : (([92, 85] : List Int) ++ hexS 8 n).length = 10 := by rw [List.length_append, hexS_len]; rfl
  have hz39 := (marked_stands 39 _ (by omega) hb2).2
  have hz34 := (marked_stands 34 _ (by omega) hb2).2
  rw [hl10] at hz39 hz34
  have V39 := Lib.hid (big_value 39 n (Or.inr rfl) hn32)
  have V34 := Lib.hid (big_value 34 n (Or.inl rfl) hn32)
  have M39 := marked_esc39 (hexS 8 n)
  have M34 := marked_esc34 (hexS 8 n)
  have hsz : (strOfNums (hexS 8 n)).size = 8 := by rw [strOfNums_size, hexS_len]
  have S39 : (marked 39 (([92, 85] : List Int) ++ hexS 8 n)).size ≤ 2147483647 := by rw [hz39]; omega
  have S34 : (marked 34 (([92, 85] : List Int) ++ hexS 8 n)).size ≤ 2147483647 := by rw [hz34]; omega
  have HS39 := Lib.hid S39
  have HS34 := Lib.hid S34
  have HM39 := Lib.hid M39
  have HM34 := Lib.hid M34
  have e39 : ((39 : Nat) : Int) = 39 := rfl
  have e34 : ((34 : Nat) : Int) = 34 := rfl
  rw [e39] at V39
  rw [e34] at V34
  clear hbl hb2 hl10 hz39 hz34 S39 S34 M39 M34 e39 e34
  generalize marked 39 (([92, 85] : List Int) ++ hexS 8 n) = t39 at *
  generalize marked 34 (([92, 85] : List Int) ++ hexS 8 n) = t34 at *
  generalize strOfNums (hexS 8 n) = hx at *
  have hc1 : ¬ 9223372036854775807 < 3 + hx.size := by omega
  have hc2 : ¬ 9223372036854775807 < 3 + hx.size + 1 := by omega
  have hc3 : 3 + hx.size ≤ 9223372036854775807 := by omega
  have hc4 : 3 + hx.size + 1 ≤ 9223372036854775807 := by omega
  by_cases hout : r < 0 ∨ 1114111 < r
  · have hmay : may n = false := by rw [may_not]; omega
    rw [if_neg (by simp [hmay])] at V39
    have hnE : r % 4294967296 = (n : Int) := hn.symm
    clear hn
    have hwn : IntKind.i64.wrap (n : Int) = n := by rw [IntKind.wrap_i64]; omega
    rcases hout with h | h
    · have h0 : r < 0 := h
      go_enter Tryd.func8, Tryd.ntmps8
      go_wp2_with fail
      refine (CF.out _).mono ?_
      rintro e w1 ⟨rfl, hb1⟩
      have HB1 := Lib.hid hb1
      clear hb1
      go_wp2_with fail
      refine (CX.out _ HB1.out).mono ?_
      rintro e w2 ⟨rfl, hb2⟩
      have HB2 := Lib.hid (bthen HB1.out hb2)
      clear hb2
      go_wp2_with fail
      refine (CH.out _).mono ?_
      rintro e w3 ⟨rfl, hb3⟩
      have HB3 := Lib.hid (bthen HB2.out hb3)
      clear hb3
      go_wp2_with fail
      rw [HM39.out]
      refine (CV.out _ HS39.out _ HB3.out).mono ?_
      intro e w4 h4
      unfold valuePost at h4
      rw [V39.out] at h4
      obtain ⟨rfl, hb4⟩ := h4
      have HB4 := Lib.hid (bthen HB3.out hb4)
      clear hb4
      go_wp2_with fail
      show Q (.returned (.bool _)) _
      exact HQ.out _ HB4.out
    · have hnr : (n : Int) = r := by omega
      rw [hnr] at CH hnE hwn
      go_enter Tryd.func8, Tryd.ntmps8
      go_wp2_with fail
      refine (CF.out _).mono ?_
      rintro e w1 ⟨rfl, hb1⟩
      have HB1 := Lib.hid hb1
      clear hb1
      go_wp2_with fail
      refine (CX.out _ HB1.out).mono ?_
      rintro e w2 ⟨rfl, hb2⟩
      have HB2 := Lib.hid (bthen HB1.out hb2)
      clear hb2
      go_wp2_with fail
      refine (CH.out _).mono ?_
      rintro e w3 ⟨rfl, hb3⟩
      have HB3 := Lib.hid (bthen HB2.out hb3)
      clear hb3
      go_wp2_with fail
      rw [HM39.out]
      refine (CV.out _ HS39.out _ HB3.out).mono ?_
      intro e w4 h4
      unfold valuePost at h4
      rw [V39.out] at h4
      obtain ⟨rfl, hb4⟩ := h4
      have HB4 := Lib.hid (bthen HB3.out hb4)
      clear hb4
      go_wp2_with fail
      show Q (.returned (.bool _)) _
      exact HQ.out _ HB4.out
  · have hnr : (n : Int) = r := by omega
    have hwn : IntKind.i64.wrap (n : Int) = n := by rw [IntKind.wrap_i64]; omega
    have ho1 : ¬ r < 0 := by omega
    have ho2 : ¬ 1114111 < r := by omega
    rw [hnr] at V39 V34 CH
    clear hn
    cases hmay : may r with
    | false =>
      rw [if_neg (by simp [hmay])] at V39 V34
      have hf : form r = ⟨#[]⟩ := (form_empty r).2 hmay
      rw [hf] at CF
      go_enter Tryd.func8, Tryd.ntmps8
      go_wp2_with fail
      refine (CF.out _).mono ?_
      rintro e w1 ⟨rfl, hb1⟩
      have HB1 := Lib.hid hb1
      clear hb1
      go_wp2_with fail
      refine (CX.out _ HB1.out).mono ?_
      rintro e w2 ⟨rfl, hb2⟩
      have HB2 := Lib.hid (bthen HB1.out hb2)
      clear hb2
      go_wp2_with fail
      refine (CH.out _).mono ?_
      rintro e w3 ⟨rfl, hb3⟩
      have HB3 := Lib.hid (bthen HB2.out hb3)
      clear hb3
      go_wp2_with fail
      rw [HM39.out]
      refine (CV.out _ HS39.out _ HB3.out).mono ?_
      intro e w4 h4
      unfold valuePost at h4
      rw [V39.out] at h4
      obtain ⟨rfl, hb4⟩ := h4
      have HB4 := Lib.hid (bthen HB3.out hb4)
      clear hb4
      go_wp2_with fail
      refine (CH.out _).mono ?_
      rintro e w5 ⟨rfl, hb5⟩
      have HB5 := Lib.hid (bthen HB4.out hb5)
      clear hb5
      go_wp2_with fail
      rw [HM34.out]
      refine (CV.out _ HS34.out _ HB5.out).mono ?_
      intro e w6 h6
      unfold valuePost at h6
      rw [V34.out] at h6
      obtain ⟨rfl, hb6⟩ := h6
      have HB6 := Lib.hid (bthen HB5.out hb6)
      clear hb6
      go_wp2_with fail
      show Q (.returned (.bool _)) _
      exact HQ.out _ HB6.out
    | true =>
      rw [if_pos hmay] at V39 V34
      have hf0 : strOfNums (formZ r) = form r := by unfold form; rfl
      have hfs := form_size r
      have hfl := formZ_len r
      have hfn : form r ≠ ⟨#[]⟩ := fun h => by rw [(form_empty r).1 h] at hmay; cases hmay
      have VS0 := self_value r hmay
      have hms := marked_self (formZ r)
      have hss := (marked_stands 39 (formZ r) (by omega) (formZ_byte r)).2
      rw [hf0] at V39 V34 VS0 hms
      generalize marked 39 (formZ r) = ts at *
      have HSS : RowKit.Hid (ts.size ≤ 2147483647) := Lib.hid (by omega)
      have HMS := Lib.hid hms
      have hfz : (form r).size ≤ 4 := by omega
      clear hf0 hfs hfl hms hss
      generalize form r = fr at *
      have hfe : fr.toList.isEmpty = false := by
        rw [ByteArray.toList_eq]
        cases h : fr.data.toList with
        | nil => exact absurd (ByteArray.ext (Array.ext' h)) hfn
        | cons b l => rfl
      have hd1 : ¬ 9223372036854775807 < 1 + fr.size := by omega
      have hd2 : ¬ 9223372036854775807 < 1 + fr.size + 1 := by omega
      have hd3 : 1 + fr.size ≤ 9223372036854775807 := by omega
      have hd4 : 1 + fr.size + 1 ≤ 9223372036854775807 := by omega
      by_cases hsp : r = 39 ∨ r = 92 ∨ r = 10
      · rw [if_pos hsp] at VS0
        have VS := Lib.hid VS0
        clear VS0
        have HF := Lib.hid hmay
        clear hmay
        rcases hsp with rfl | rfl | rfl
        all_goals (
          go_enter Tryd.func8, Tryd.ntmps8
          go_wp2_with fail
          refine (CF.out _).mono ?_
          rintro e w1 ⟨rfl, hb1⟩
          have HB1 := Lib.hid hb1
          clear hb1
          go_wp2_with fail
          refine (CX.out _ HB1.out).mono ?_
          rintro e w2 ⟨rfl, hb2⟩
          have HB2 := Lib.hid (bthen HB1.out hb2)
          clear hb2
          go_wp2_with fail
          refine (CH.out _).mono ?_
          rintro e w3 ⟨rfl, hb3⟩
          have HB3 := Lib.hid (bthen HB2.out hb3)
          clear hb3
          go_wp2_with fail
          rw [HM39.out]
          refine (CV.out _ HS39.out _ HB3.out).mono ?_
          intro e w4 h4
          unfold valuePost at h4
          rw [V39.out] at h4
          obtain ⟨rfl, hb4⟩ := h4
          have HB4 := Lib.hid (bthen HB3.out hb4)
          clear hb4
          go_wp2_with fail
          refine (CH.out _).mono ?_
          rintro e w5 ⟨rfl, hb5⟩
          have HB5 := Lib.hid (bthen HB4.out hb5)
          clear hb5
          go_wp2_with fail
          rw [HM34.out]
          refine (CV.out _ HS34.out _ HB5.out).mono ?_
          intro e w6 h6
          unfold valuePost at h6
          rw [V34.out] at h6
          obtain ⟨rfl, hb6⟩ := h6
          have HB6 := Lib.hid (bthen HB5.out hb6)
          clear hb6
          go_wp2_with fail
          rw [HMS.out]
          refine (CV.out _ HSS.out _ HB6.out).mono ?_
          intro e w7 h7
          unfold valuePost at h7
          rw [VS.out] at h7
          obtain ⟨rfl, hb7⟩ := h7
          have HB7 := Lib.hid (bthen HB6.out hb7)
          clear hb7
          go_wp2_with fail
          show Q (.returned (.bool _)) _
          exact HQ.out _ HB7.out)
      · rw [if_neg hsp] at VS0
        have VS := Lib.hid VS0
        clear VS0
        have s1 : ¬ r = 39 := by omega
        have s2 : ¬ r = 92 := by omega
        have s3 : ¬ r = 10 := by omega
        have q1 : (r == 39) = false := by rw [beq_eq_false_iff_ne]; exact s1
        have q2 : (r == 92) = false := by rw [beq_eq_false_iff_ne]; exact s2
        have q3 : (r == 10) = false := by rw [beq_eq_false_iff_ne]; exact s3
        go_enter Tryd.func8, Tryd.ntmps8
        go_wp2_with fail
        refine (CF.out _).mono ?_
        rintro e w1 ⟨rfl, hb1⟩
        have HB1 := Lib.hid hb1
        clear hb1
        go_wp2_with fail
        refine (CX.out _ HB1.out).mono ?_
        rintro e w2 ⟨rfl, hb2⟩
        have HB2 := Lib.hid (bthen HB1.out hb2)
        clear hb2
        go_wp2_with fail
        refine (CH.out _).mono ?_
        rintro e w3 ⟨rfl, hb3⟩
        have HB3 := Lib.hid (bthen HB2.out hb3)
        clear hb3
        go_wp2_with fail
        rw [HM39.out]
        refine (CV.out _ HS39.out _ HB3.out).mono ?_
        intro e w4 h4
        unfold valuePost at h4
        rw [V39.out] at h4
        obtain ⟨rfl, hb4⟩ := h4
        have HB4 := Lib.hid (bthen HB3.out hb4)
        clear hb4
        go_wp2_with fail
        refine (CH.out _).mono ?_
        rintro e w5 ⟨rfl, hb5⟩
        have HB5 := Lib.hid (bthen HB4.out hb5)
        clear hb5
        go_wp2_with fail
        rw [HM34.out]
        refine (CV.out _ HS34.out _ HB5.out).mono ?_
        intro e w6 h6
        unfold valuePost at h6
        rw [V34.out] at h6
        obtain ⟨rfl, hb6⟩ := h6
        have HB6 := Lib.hid (bthen HB5.out hb6)
        clear hb6
        go_wp2_with fail
        rw [HMS.out]
        refine (CV.out _ HSS.out _ HB6.out).mono ?_
        intro e w7 h7
        unfold valuePost at h7
        rw [VS.out] at h7
        obtain ⟨rfl, hb7⟩ := h7
        have HB7 := Lib.hid (bthen HB6.out hb7)
        clear hb7
        go_wp2_with fail
        show Q (.returned (.bool _)) _
        exact HQ.out _ HB7.out
end Go.Proofs.YtnnfkdjmpbgkaaaDoor
