/- The statement ClassLonger, walked: the call returns true. -/
import Derived.Test.YtfgchnhjboehpaaDoorLaw02
import Derived.Test.YtfgchnhjboehpaaDoorRef02b
import Derived.Test.YtfgchnhjboehpaaDoorClassApartWalk
namespace Go.Proofs.YtfgchnhjboehpaaDoor
open Go.RowKit
theorem letters_may : ∀ p ∈ letterRanges, p.2 < 55296 ∨ (57343 < p.1 ∧ p.2 ≤ 1114111) := by decide +kernel
theorem digits_may : ∀ p ∈ digitRanges, p.2 < 55296 ∨ (57343 < p.1 ∧ p.2 ≤ 1114111) := by decide +kernel
theorem letter_may {r : Int} (h : letter r = true) : may r = true := by
  unfold letter at h
  obtain ⟨p, hp, h1, h2⟩ := inR_ex h
  have := letters_may p hp
  rw [may_iff]; omega
theorem digit_may {r : Int} (h : digit r = true) : may r = true := by
  unfold digit at h
  obtain ⟨p, hp, h1, h2⟩ := inR_ex h
  have := digits_may p hp
  rw [may_iff]; omega
/-- The character whose form stands for a number. -/
def asChar (r : Int) : Int := if may r = true then r else 65533
theorem encode_as (r : Int) : Utf8.encode r = form (asChar r) := by
  unfold asChar
  by_cases h : may r = true
  · rw [if_pos h, encode_form h]
  · rw [if_neg h]
    have hf : Utf8.valid r = false := by
      have := (may_not r).1 (by simpa using h)
      unfold Utf8.valid; simp; omega
    have e : Utf8.encode r = Utf8.encode 65533 := by
      unfold Utf8.encode
      rw [hf]; rfl
    rw [e, encode_form (by rw [may_iff]; omega)]
theorem asChar_may (r : Int) : may (asChar r) = true := by
  unfold asChar
  by_cases h : may r = true
  · rw [if_pos h]; exact h
  · rw [if_neg h, may_iff]; omega
theorem ffd : letter 65533 = false ∧ digit 65533 = false := by decide +kernel
theorem more_as (r : Int) : (letter (asChar r) || digit (asChar r)) = (letter r || digit r) := by
  unfold asChar
  by_cases h : may r = true
  · rw [if_pos h]
  · rw [if_neg h, ffd.1, ffd.2]
    have h1 : letter r = false := by
      cases e : letter r
      · rfl
      · exact absurd (letter_may e) h
    have h2 : digit r = false := by
      cases e : digit r
      · rfl
      · exact absurd (digit_may e) h
    rw [h1, h2]
theorem scan_one (r : Int) (hm : may r = true) : scan (form r) 0 = ([r.toNat], none) := by
  have h := scan_form r ByteArray.empty hm
  rw [scan_end (s := ByteArray.empty) (by exact Nat.zero_le _)] at h
  have e : form r ++ ByteArray.empty = form r := by simp
  rw [e] at h
  simpa using h
theorem words_low : ∀ l ∈ words, l ≠ [] ∧ ∀ b ∈ l, 97 ≤ b.toNat ∧ b.toNat ≤ 122 := by decide +kernel
theorem low_letter : ∀ n : Nat, n < 123 → 97 ≤ n → letter (n : Int) = true := by decide +kernel
theorem chk_snoc (l : List Int) (x : Int) (b : Bool) (h : l ≠ [] ∨ b = false) : chk b (l ++ [x]) = (chk b l && (letter x || digit x)) := by
  induction l generalizing b with
  | nil =>
    rcases h with h | rfl
    · exact absurd rfl h
    · simp [chk]
  | cons y l ih => simp only [List.cons_append, chk]; rw [ih false (Or.inr rfl), Bool.and_assoc]
theorem form_last (r : Int) (hm : may r = true) : ∃ l b, (form r).data.toList = l ++ [b] ∧ (b.toNat < 128 → (b.toNat : Int) = r) := by
  have hr := (may_iff r).1 hm
  rw [form_data]
  unfold formZ
  rw [if_neg (by simp [hm])]
  by_cases h1 : r < 128
  · rw [if_pos h1]
    exact ⟨[], _, rfl, fun _ => by rw [toNat_ofNat_lt _ (by omega)]; omega⟩
  · rw [if_neg h1]
    have hlast : ∀ x : Int, 0 ≤ x → x < 64 → ¬ (UInt8.ofNat (128 + x).toNat).toNat < 128 := fun x h0 h => by rw [toNat_ofNat_lt _ (by omega)]; omega
    by_cases h2 : r < 2048
    · rw [if_pos h2]; exact ⟨[_], _, rfl, fun h => absurd h (hlast _ (by omega) (by omega))⟩
    · rw [if_neg h2]
      by_cases h3 : r < 65536
      · rw [if_pos h3]; exact ⟨[_, _], _, rfl, fun h => absurd h (hlast _ (by omega) (by omega))⟩
      · rw [if_neg h3]; exact ⟨[_, _, _], _, rfl, fun h => absurd h (hlast _ (by omega) (by omega))⟩
theorem word_form (s : ByteArray) (r : Int) (hm : may r = true) (h : word (s ++ form r) = true) : letter r = true := by
  unfold word at h
  rw [List.any_eq_true] at h
  obtain ⟨l, hl, h⟩ := h
  rw [beq_iff_eq, ByteArray.toList_eq, data_append] at h
  obtain ⟨l', b, e, hb⟩ := form_last r hm
  rw [e] at h
  have hw := (words_low l hl).2 b (by rw [← h]; simp)
  have hr := hb (by omega)
  have hl := low_letter b.toNat (by omega) hw.1
  rw [hr] at hl
  exact hl
theorem longer (s : ByteArray) (r : Int) (hn : name s = true) : word s = false ∧ (name (s ++ Utf8.encode r) || word (s ++ Utf8.encode r)) = (letter r || digit r) := by
  rw [name_def] at hn
  simp only [Bool.and_eq_true, Bool.not_eq_true', decide_eq_true_eq] at hn
  obtain ⟨⟨⟨h1, h2⟩, h3⟩, h4⟩ := hn
  refine ⟨h2, ?_⟩
  rw [encode_as, ← more_as]
  have hm := asChar_may r
  generalize asChar r = x at *
  have hs := scan_one x hm
  have hbt : bad (form x) < 0 := by rw [bad_neg, hs]
  have hc : chars (form x) = [x.toNat] := by unfold chars; rw [hs]
  have hb := bad_append h3 hbt
  have hcs := chars_append (t := form x) h3
  have h0 := ((may_iff x).1 hm).1
  have hne : nats (chars s) ≠ [] := by
    intro e
    have : chars s = [] := by unfold nats at e; simpa using e
    rw [(chars_empty h3).1 this] at h1; cases h1
  have hemp : (s ++ form x).toList.isEmpty = false := by
    rw [isEmpty_size, ByteArray.size_append]
    have := form_pos hm
    exact decide_eq_false (by omega)
  have hchk : chk true (nats (chars (s ++ form x))) = (letter x || digit x) := by
    rw [hcs, hc]
    have e : nats (chars s ++ [x.toNat]) = nats (chars s) ++ [x] := by
      unfold nats; rw [List.map_append]
      simp; omega
    rw [e, chk_snoc _ _ _ (Or.inl hne), h4, Bool.true_and]
  rw [name_def, hemp, decide_eq_true hb, hchk]
  cases hw : word (s ++ form x)
  · simp
  · simp [word_form s x hm hw]
theorem encode_size (r : Int) : (Utf8.encode r).size ≤ 4 := by rw [encode_as, form_size]; exact formZ_length _
set_option maxRecDepth 100000 in
set_option maxHeartbeats 4000000 in
theorem ClassLonger_walk (s : ByteArray) (hs : s.size ≤ 1048576) (r : Int) (hr : (Lit.int .i32 r).wf = true) (w : World) (hT : Tabs w) :
    Calls Tryd.prog 11 #[.string s, .int .i32 r] w fun e w' => e = .returned (.bool true) ∧ Below w.heap.size w w' := by
  have hb := bounds_i32 hr
  have CN := Lib.hid (fun w hT => class_Name s w hT)
  have HL := Lib.hid (longer s r)
  cases hn : name s
  · rw [hn] at CN
    clear hn hr
    go_enter Tryd.func11, Tryd.ntmps11
    go_wp2_with fail
    refine (law02_fixed _ hT).mono ?_; rintro e w1 ⟨rfl, hb1⟩
    go_wp2_with fail
    refine (CN.out _ (hT.below hb1)).mono ?_; rintro e w2 ⟨rfl, hb2⟩
    have hb12 := bthen hb1 hb2
    go_wp2_with fail
    refine (law02_fixed _ (hT.below hb12)).mono ?_; rintro e w3 ⟨rfl, hb3⟩
    have hb13 := bthen hb12 hb3
    go_wp2_with fail
    go_ret
    exact ⟨rfl, hb13⟩
  · obtain ⟨hw, hlong⟩ := HL.out hn
    have he := encode_size r
    have CW := Lib.hid (fun w => class_Word s w)
    have CNT := Lib.hid (fun w hT => class_Name (s ++ Utf8.encode r) w hT)
    have CWT := Lib.hid (fun w => class_Word (s ++ Utf8.encode r) w)
    have CL := Lib.hid (fun w => class_Letter r w)
    have CD := Lib.hid (fun w => class_Digit r (by omega) w)
    rw [hn] at CN; rw [hw] at CW
    clear hn hr hw HL
    generalize name (s ++ Utf8.encode r) = n1 at *
    generalize word (s ++ Utf8.encode r) = n2 at *
    generalize letter r = l1 at *
    generalize digit r = l2 at *
    have HX := Lib.hid hlong
    clear hlong
    go_enter Tryd.func11, Tryd.ntmps11
    go_wp2_with fail
    refine (law02_fixed _ hT).mono ?_; rintro e w1 ⟨rfl, hb1⟩
    go_wp2_with fail
    refine (CN.out _ (hT.below hb1)).mono ?_; rintro e w2 ⟨rfl, hb2⟩
    have hb12 := bthen hb1 hb2
    go_wp2_with fail
    refine (CL.out _).mono ?_; rintro e w3 ⟨rfl, hb3⟩
    have hb13 := bthen hb12 hb3
    cases l1
    · go_wp2_with fail
      refine (CD.out _).mono ?_; rintro e w4 ⟨rfl, rfl⟩
      go_wp2_with fail
      refine (CW.out _).mono ?_; rintro e w4 ⟨rfl, rfl⟩
      go_wp2_with fail
      refine (CNT.out _ (hT.below hb13)).mono ?_; rintro e w4 ⟨rfl, hb4⟩
      have hb14 := bthen hb13 hb4
      cases n1
      · go_wp2_with fail
        refine (CWT.out _).mono ?_; rintro e w5 ⟨rfl, rfl⟩
        have e1 : n2 = l2 := by simpa using HX.out
        subst e1
        go_wp2_with fail
        go_ret
        exact ⟨ret_bool (by simp), hb14⟩
      · have e1 : l2 = true := by simpa using HX.out.symm
        subst e1
        go_wp2_with fail
        go_ret
        exact ⟨rfl, hb14⟩
    · go_wp2_with fail
      refine (CW.out _).mono ?_; rintro e w4 ⟨rfl, rfl⟩
      go_wp2_with fail
      refine (CNT.out _ (hT.below hb13)).mono ?_; rintro e w4 ⟨rfl, hb4⟩
      have hb14 := bthen hb13 hb4
      cases n1
      · have e1 : n2 = true := by simpa using HX.out
        subst e1
        go_wp2_with fail
        refine (CWT.out _).mono ?_; rintro e w5 ⟨rfl, rfl⟩
        go_wp2_with fail
        go_ret
        exact ⟨rfl, hb14⟩
      · go_wp2_with fail
        go_ret
        exact ⟨rfl, hb14⟩
end Go.Proofs.YtfgchnhjboehpaaDoor
