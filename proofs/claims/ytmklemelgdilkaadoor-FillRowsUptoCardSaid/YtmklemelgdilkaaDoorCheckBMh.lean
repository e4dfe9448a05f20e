/- Layer 11: which words a kind may have; the program's spelt, walked. -/
import Derived.Test.YtmklemelgdilkaaDoorCheckPMh
import Derived.Test.YtmklemelgdilkaaDoorPureMh
import Derived.Test.YtmklemelgdilkaaDoorMatchP2Mh
import Derived.Test.YtmklemelgdilkaaDoorNum4Mh
import Derived.Test.YtmklemelgdilkaaDoorShelfQMh
namespace Go.Proofs.YtmklemelgdilkaaDoor
set_option linter.all false
open Go.RowKit

theorem strB_toList (x : List UInt8) : (⟨x.toArray⟩ : ByteArray).toList = x := by rw [ByteArray.toList_eq]
def sptB (k : Nat) (s : ByteArray) : Bool :=
 if k = 26 then name s else if k = 27 then (decide ((value s).2 = 0) || decide (kindL (byts s) ≠ 0)) else (s.toList.isEmpty && noneT k) || decide (s.toList ∈ wordsT k)
theorem spt_other {k : Nat} (s : ByteArray) (h1 : k ≠ 26) (h2 : k ≠ 27) : sptB k s = ((s.toList.isEmpty && noneT k) || decide (s.toList ∈ wordsT k)) := by unfold sptB; rw [if_neg h1, if_neg h2]
theorem spt_words {k : Nat} (s : ByteArray) (h : k = 3 ∨ k = 4 ∨ k = 36 ∨ k = 37 ∨ k = 45 ∨ k = 52 ∨ k = 53 ∨ k = 57) : sptB k s = (!s.toList.isEmpty && (!Lib.contains s.toList [32] && Lib.contains (wordsP k) (32 :: (s.toList ++ [32])))) := by
 have e : wordsP k = jn (wordsT k) := by rcases h with rfl | rfl | rfl | rfl | rfl | rfl | rfl | rfl <;> rfl
 have hn : noneT k = false := by rcases h with rfl | rfl | rfl | rfl | rfl | rfl | rfl | rfl <;> rfl
 rw [spt_other s (by omega) (by omega), hn, Bool.and_false, Bool.false_or, e, ← among_jn (wordsT_fine k)]
 congr 1
 cases s.toList with
 | nil => rfl
 | cons a l => simp
theorem spt_none {k : Nat} (s : ByteArray) (h : ¬ (k = 26 ∨ k = 27 ∨ k = 5 ∨ k = 7 ∨ k = 15 ∨ k = 34 ∨ k = 66)) (hw : wordsP k = []) : sptB k s = s.toList.isEmpty := by
 have hk : ¬ (k = 3 ∨ k = 4) ∧ k ≠ 36 ∧ k ≠ 37 ∧ k ≠ 45 ∧ k ≠ 52 ∧ k ≠ 53 ∧ k ≠ 57 := by
  unfold wordsP at hw
  have ne : ∀ ws, jn ws ≠ [] := fun ws => by obtain ⟨t, ht⟩ := jn_head ws; rw [ht]; simp
  by_cases h1 : k = 3 ∨ k = 4
  ·rw [if_pos h1] at hw; exact absurd hw (ne _)
  rw [if_neg h1] at hw
  by_cases h2 : k = 36
  ·rw [if_pos h2] at hw; exact absurd hw (ne _)
  rw [if_neg h2] at hw
  by_cases h3 : k = 37
  ·rw [if_pos h3] at hw; exact absurd hw (ne _)
  rw [if_neg h3] at hw
  by_cases h4 : k = 45
  ·rw [if_pos h4] at hw; exact absurd hw (ne _)
  rw [if_neg h4] at hw
  by_cases h5 : k = 52
  ·rw [if_pos h5] at hw; exact absurd hw (ne _)
  rw [if_neg h5] at hw
  by_cases h6 : k = 53
  ·rw [if_pos h6] at hw; exact absurd hw (ne _)
  rw [if_neg h6] at hw
  by_cases h7 : k = 57
  ·rw [if_pos h7] at hw; exact absurd hw (ne _)
  exact ⟨h1, h2, h3, h4, h5, h6, h7⟩
 rw [spt_other s (by omega) (by omega)]
 have hn : noneT k = true := by unfold noneT; simp; omega
 have ht : wordsT k = [] := by
  unfold wordsT
  rw [if_neg (by omega), if_neg (by omega), if_neg (by omega), if_neg (by omega), if_neg (by omega), if_neg (by omega), if_neg (by omega), if_neg (by omega), if_neg (by omega), if_neg (by omega), if_neg (by omega)]
 rw [hn, ht]; simp
theorem words_or (k : Nat) : wordsP k = [] ∨ ((k = 3 ∨ k = 4 ∨ k = 36 ∨ k = 37 ∨ k = 45 ∨ k = 52 ∨ k = 53 ∨ k = 57) ∧ wordsP k ≠ []) := by
 by_cases h : k = 3 ∨ k = 4 ∨ k = 36 ∨ k = 37 ∨ k = 45 ∨ k = 52 ∨ k = 53 ∨ k = 57
 ·refine Or.inr ⟨h, ?_⟩
  rcases h with rfl | rfl | rfl | rfl | rfl | rfl | rfl | rfl <;> decide
 ·left
  unfold wordsP
  rw [if_neg (by omega), if_neg (by omega), if_neg (by omega), if_neg (by omega), if_neg (by omega), if_neg (by omega), if_neg (by omega)]
set_option maxRecDepth 100000 in
set_option maxHeartbeats 16000000 in
theorem term_spelt (k : Nat) (hk : k < 256) (s : ByteArray) (w : World) (hT : Tabs w) (hM : MaxC w) (hs : s.size ≤ 2147483647) :
  Calls Tryd.prog 45 #[.int .u8 (k : Int), .string s] w fun e w' => e = .returned (.bool (sptB k s)) ∧ Below w.heap.size w w' := by
 have HQ : RowKit.Hid (∀ x w', sptB k s = x → Below w.heap.size w w' → (fun (e : Ending) w' => e = .returned (.bool (sptB k s)) ∧ Below w.heap.size w w') (.returned (.bool x)) w') := Lib.hid fun x w' h hb => ⟨by rw [h], hb⟩
 generalize (fun (e : Ending) w' => e = .returned (.bool (sptB k s)) ∧ Below w.heap.size w w') = Q at *
 have HM := Lib.hid hM
 clear hM
 by_cases k26 : k = 26
 ·have C1 := Lib.hid (class_Name s w hT)
  have HV := Lib.hid (show sptB k s = name s by unfold sptB; rw [if_pos k26])
  have f26 : ((k : Int) == 26) = true := by rw [beq_iff_eq]; omega
  clear k26
  go_enter Tryd.func45, Tryd.ntmps45
  go_wp2_with fail
  refine C1.out.mono ?_
  rintro e w1 ⟨rfl, hb⟩
  generalize name s = x at *
  go_wp2_with fail
  exact HQ.out _ _ HV.out hb
 have f26 : ((k : Int) == 26) = false := by rw [beq_eq_false_iff_ne]; omega
 by_cases k27 : k = 27
 ·have C1 := Lib.hid (quoted_Value s w hT HM.out hs)
  have C2 := Lib.hid (fun w => number_Kind s hs w)
  have HV := Lib.hid (show sptB k s = (decide ((value s).2 = 0) || decide (kindL (byts s) ≠ 0)) by unfold sptB; rw [if_neg k26, if_pos k27])
  have f27 : ((k : Int) == 27) = true := by rw [beq_iff_eq]; omega
  clear k26 k27
  go_enter Tryd.func45, Tryd.ntmps45
  go_wp2_with fail
  refine C1.out.mono ?_
  intro e w1 h1
  unfold valuePost at h1
  obtain ⟨rfl, hb⟩ := h1
  have HB := Lib.hid hb
  clear hb
  generalize value s = v at *
  obtain ⟨v1, v2⟩ := v
  generalize kindL (byts s) = q at *
  simp only [] at HV
  by_cases hv : v2 = 0
  ·have hvb : (v2 == 0) = true := by rw [beq_iff_eq]; exact hv
   have HX := Lib.hid (show sptB k s = true by rw [HV.out, decide_eq_true hv, Bool.true_or])
   clear hv HV
   go_wp2_with fail
   exact HQ.out _ _ HX.out HB.out
  ·have hvb : (v2 == 0) = false := by rw [beq_eq_false_iff_ne]; exact hv
   have HX := Lib.hid (show sptB k s = decide (q ≠ 0) by rw [HV.out, decide_eq_false hv, Bool.false_or])
   clear hv HV
   go_wp2_with fail
   refine (C2.out _).mono ?_
   rintro e w2 ⟨rfl, hb2⟩
   have HB2 := Lib.hid (bthen HB.out hb2)
   clear hb2
   go_wp2_with fail
   exact HQ.out _ _ (by rw [HX.out, Bool.eq_iff_iff]; simp; try omega) HB2.out
 have f27 : ((k : Int) == 27) = false := by rw [beq_eq_false_iff_ne]; omega
 have HO := Lib.hid (spt_other s k26 k27)
 by_cases kk : k = 5 ∨ k = 5
 ·have f5 : ((k : Int) == 5) = true := by rw [beq_iff_eq]; omega
  have HV := Lib.hid (show sptB k s = (s.toList.isEmpty || (s.toList == [46])) by rw [HO.out, Bool.eq_iff_iff]; rcases kk with rfl | rfl <;> simp [noneT, wordsT])
  clear HO kk k26 k27
  by_cases he : s.toList.isEmpty = true
  ·have HX := Lib.hid (show sptB k s = true by rw [HV.out, he]; rfl)
   have he2 : s.toList = [] := by simpa using he
   go_enter Tryd.func45, Tryd.ntmps45
   go_wp2_with fail
   all_goals exact HQ.out _ _ HX.out (Below.refl _ _)
  ·have he1 : s.toList.isEmpty = false := by simpa using he
   have HX := Lib.hid (show sptB k s = (s.toList == [46]) by rw [HV.out, he1, Bool.false_or])
   clear he
   go_enter Tryd.func45, Tryd.ntmps45
   go_wp2_with fail
   all_goals exact HQ.out _ _ HX.out (Below.refl _ _)
 have k5 : k ≠ 5 := by omega
 have f5 : ((k : Int) == 5) = false := by rw [beq_eq_false_iff_ne]; omega
 clear kk
 by_cases kk : k = 7 ∨ k = 7
 ·have f7 : ((k : Int) == 7) = true := by rw [beq_iff_eq]; omega
  have HV := Lib.hid (show sptB k s = (s.toList.isEmpty || (s.toList == [61])) by rw [HO.out, Bool.eq_iff_iff]; rcases kk with rfl | rfl <;> simp [noneT, wordsT])
  clear HO kk k26 k27 k5
  by_cases he : s.toList.isEmpty = true
  ·have HX := Lib.hid (show sptB k s = true by rw [HV.out, he]; rfl)
   have he2 : s.toList = [] := by simpa using he
   go_enter Tryd.func45, Tryd.ntmps45
   go_wp2_with fail
   all_goals exact HQ.out _ _ HX.out (Below.refl _ _)
  ·have he1 : s.toList.isEmpty = false := by simpa using he
   have HX := Lib.hid (show sptB k s = (s.toList == [61]) by rw [HV.out, he1, Bool.false_or])
   clear he
   go_enter Tryd.func45, Tryd.ntmps45
   go_wp2_with fail
   all_goals exact HQ.out _ _ HX.out (Below.refl _ _)
 have k7 : k ≠ 7 := by omega
 have f7 : ((k : Int) == 7) = false := by rw [beq_eq_false_iff_ne]; omega
 clear kk
 by_cases kk : k = 15 ∨ k = 15
 ·have f15 : ((k : Int) == 15) = true := by rw [beq_iff_eq]; omega
  have HV := Lib.hid (show sptB k s = (s.toList.isEmpty || (s.toList == [46, 46, 46])) by rw [HO.out, Bool.eq_iff_iff]; rcases kk with rfl | rfl <;> simp [noneT, wordsT])
  clear HO kk k26 k27 k5 k7
  by_cases he : s.toList.isEmpty = true
  ·have HX := Lib.hid (show sptB k s = true by rw [HV.out, he]; rfl)
   have he2 : s.toList = [] := by simpa using he
   go_enter Tryd.func45, Tryd.ntmps45
   go_wp2_with fail
   all_goals exact HQ.out _ _ HX.out (Below.refl _ _)
  ·have he1 : s.toList.isEmpty = false := by simpa using he
   have HX := Lib.hid (show sptB k s = (s.toList == [46, 46, 46]) by rw [HV.out, he1, Bool.false_or])
   clear he
   go_enter Tryd.func45, Tryd.ntmps45
   go_wp2_with fail
   all_goals exact HQ.out _ _ HX.out (Below.refl _ _)
 have k15 : k ≠ 15 := by omega
 have f15 : ((k : Int) == 15) = false := by rw [beq_eq_false_iff_ne]; omega
 clear kk
 by_cases kk : k = 34 ∨ k = 34
 ·have f34 : ((k : Int) == 34) = true := by rw [beq_iff_eq]; omega
  have HV := Lib.hid (show sptB k s = (s.toList.isEmpty || (s.toList == [46, 46, 46])) by rw [HO.out, Bool.eq_iff_iff]; rcases kk with rfl | rfl <;> simp [noneT, wordsT])
  clear HO kk k26 k27 k5 k7 k15
  by_cases he : s.toList.isEmpty = true
  ·have HX := Lib.hid (show sptB k s = true by rw [HV.out, he]; rfl)
   have he2 : s.toList = [] := by simpa using he
   go_enter Tryd.func45, Tryd.ntmps45
   go_wp2_with fail
   all_goals exact HQ.out _ _ HX.out (Below.refl _ _)
  ·have he1 : s.toList.isEmpty = false := by simpa using he
   have HX := Lib.hid (show sptB k s = (s.toList == [46, 46, 46]) by rw [HV.out, he1, Bool.false_or])
   clear he
   go_enter Tryd.func45, Tryd.ntmps45
   go_wp2_with fail
   all_goals exact HQ.out _ _ HX.out (Below.refl _ _)
 have k34 : k ≠ 34 := by omega
 have f34 : ((k : Int) == 34) = false := by rw [beq_eq_false_iff_ne]; omega
 clear kk
 by_cases k66 : k = 66
 ·have f66 : ((k : Int) == 66) = true := by rw [beq_iff_eq]; omega
  have HV := Lib.hid (show sptB k s = (s.toList.isEmpty || ((s.toList == [61]) || (s.toList == [58, 61]))) by rw [HO.out, Bool.eq_iff_iff, k66]; simp [noneT, wordsT])
  clear HO k66 k26 k27 k5 k7 k15 k34
  by_cases he : s.toList.isEmpty = true
  ·have HX := Lib.hid (show sptB k s = true by rw [HV.out, he]; rfl)
   have he2 : s.toList = [] := by simpa using he
   go_enter Tryd.func45, Tryd.ntmps45
   go_wp2_with fail
   all_goals exact HQ.out _ _ HX.out (Below.refl _ _)
  ·have he1 : s.toList.isEmpty = false := by simpa using he
   clear he
   cases hq : (s.toList == [61]) with
   | true =>
    have HX := Lib.hid (show sptB k s = true by rw [HV.out, he1, hq]; rfl)
    clear HV
    go_enter Tryd.func45, Tryd.ntmps45
    go_wp2_with fail
    all_goals exact HQ.out _ _ HX.out (Below.refl _ _)
   | false =>
    have HX := Lib.hid (show sptB k s = (s.toList == [58, 61]) by rw [HV.out, he1, hq]; rfl)
    clear HV
    go_enter Tryd.func45, Tryd.ntmps45
    go_wp2_with fail
    all_goals exact HQ.out _ _ HX.out (Below.refl _ _)
 have f66 : ((k : Int) == 66) = false := by rw [beq_eq_false_iff_ne]; omega
 have C1 := Lib.hid (term_words k hk w)
 rcases words_or k with hw | ⟨hw, hne⟩
 ·have HX := Lib.hid (spt_none s (by omega) hw)
  rw [hw] at C1
  clear hw HO k66 k26 k27 k5 k7 k15 k34
  go_enter Tryd.func45, Tryd.ntmps45
  go_wp2_with fail
  refine C1.out.mono ?_
  rintro e w1 ⟨rfl, rfl⟩
  go_wp2_with fail
  exact HQ.out _ _ HX.out (Below.refl _ _)
 ·have HV := Lib.hid (spt_words s hw)
  obtain ⟨m, hm, _⟩ := HM.out
  have hAl : ((⟨(wordsP k).toArray⟩ : ByteArray).toList.isEmpty) = false := by
   rw [strB_toList]; cases h : wordsP k with
   | nil => exact absurd h hne
   | cons a l => rfl
  have hAz : (⟨(wordsP k).toArray⟩ : ByteArray).size ≤ 1000 := by
   have : ∀ k, k < 58 → (wordsP k).length ≤ 1000 := by decide
   show (wordsP k).toArray.size ≤ 1000
   simpa using this k (by omega)
  have CB1 := Lib.hid (Tryd.strings_Contains s ⟨#[32]⟩ m w (by omega) hm)
  have CB2 := Lib.hid (Tryd.strings_Contains ⟨(wordsP k).toArray⟩ ((⟨#[32]⟩ : ByteArray) ++ s ++ ⟨#[32]⟩) m w (by omega) hm)
  have hz1 : ¬ 9223372036854775807 < (⟨#[32]⟩ : ByteArray).size + s.size := by show ¬ _ < 1 + _; omega
  have hz2 : ¬ 9223372036854775807 < ((⟨#[32]⟩ : ByteArray) ++ s).size + (⟨#[32]⟩ : ByteArray).size := by rw [ByteArray.size_append]; show ¬ _ < 1 + _ + 1; omega
  have hcat : ((⟨#[32]⟩ : ByteArray) ++ s ++ ⟨#[32]⟩).data.toList = 32 :: (s.toList ++ [32]) := by rw [ByteArray.data_append, ByteArray.data_append, ByteArray.toList_eq]; simp
  rw [hcat] at CB2
  have e1 : (⟨(wordsP k).toArray⟩ : ByteArray).data.toList = wordsP k := by simp
  rw [e1] at CB2
  have e2 : s.data.toList = s.toList := (ByteArray.toList_eq s).symm
  rw [e2, show (⟨#[32]⟩ : ByteArray).data.toList = [32] from rfl] at CB1
  clear e1 e2 hcat hm hw hne HO k66 k26 k27 k5 k7 k15 k34 hAz
  generalize (⟨(wordsP k).toArray⟩ : ByteArray) = A at *
  generalize Lib.contains s.toList [32] = b1 at *
  generalize Lib.contains (wordsP k) (32 :: (s.toList ++ [32])) = b2 at *
  by_cases he : s.toList.isEmpty = true
  ·have he2 : s.toList = [] := by simpa using he
   have HX := Lib.hid (show sptB k s = false by rw [HV.out, he]; rfl)
   go_enter Tryd.func45, Tryd.ntmps45
   go_wp2_with fail
   refine C1.out.mono ?_
   rintro e w1 ⟨rfl, rfl⟩
   go_wp2_with fail
   exact HQ.out _ _ HX.out (Below.refl _ _)
  ·have he1 : s.toList.isEmpty = false := by simpa using he
   clear he
   cases b1 with
   | true =>
    have HX := Lib.hid (show sptB k s = false by rw [HV.out, he1]; rfl)
    go_enter Tryd.func45, Tryd.ntmps45
    go_wp2_with fail
    refine C1.out.mono ?_
    rintro e w1 ⟨rfl, rfl⟩
    go_wp2_with fail
    refine CB1.out.mono ?_
    rintro e w1 ⟨rfl, rfl⟩
    go_wp2_with fail
    exact HQ.out _ _ HX.out (Below.refl _ _)
   | false =>
    have HX := Lib.hid (show sptB k s = b2 by rw [HV.out, he1]; rfl)
    go_enter Tryd.func45, Tryd.ntmps45
    go_wp2_with fail
    refine C1.out.mono ?_
    rintro e w1 ⟨rfl, rfl⟩
    go_wp2_with fail
    refine CB1.out.mono ?_
    rintro e w1 ⟨rfl, rfl⟩
    go_wp2_with fail
    refine CB2.out.mono ?_
    rintro e w1 ⟨rfl, rfl⟩
    go_wp2_with fail
    exact HQ.out _ _ HX.out (Below.refl _ _)
end Go.Proofs.YtmklemelgdilkaaDoor
