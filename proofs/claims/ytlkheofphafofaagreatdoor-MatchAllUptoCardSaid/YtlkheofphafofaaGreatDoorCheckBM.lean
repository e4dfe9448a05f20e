/- Layer 11: which words a kind may have; the program's spelt, walked. -/
import Derived.Test.YtlkheofphafofaaGreatDoorCheckPM
import Derived.Test.YtlkheofphafofaaGreatDoorClassM
import Derived.Test.YtlkheofphafofaaGreatDoorMatchP2M
import Derived.Test.YtlkheofphafofaaGreatDoorNum4M
import Derived.Test.YtlkheofphafofaaGreatDoorShelfQM
import Derived.Test.YtlkheofphafofaaGreatDoorTermSameM
namespace Go.Proofs.YtlkheofphafofaaGreatDoor
set_option linter.all false
open Go.RowKit

theorem strB_toList (x : List UInt8) : (⟨x.toArray⟩ : ByteArray).toList = x := by rw [ByteArray.toList_eq]
def sptB (k : Nat) (s : ByteArray) : Bool :=
 if k = 26 then name s else if k = 27 then (decide ((value s).2 = 0) || decide (kindL (byts s) ≠ 0)) else (s.toList.isEmpty && noneT k) || decide (s.toList ∈ wordsT k)
theorem spt_other {k : Nat} (s : ByteArray) (h1 : k ≠ 26) (h2 : k ≠ 27) : sptB k s = ((s.toList.isEmpty && noneT k) || decide (s.toList ∈ wordsT k)) := by unfold sptB; rw [if_neg h1, if_neg h2]
theorem spt_words {k : Nat} (s : ByteArray) (h : k = 3 ∨ k = 4 ∨ k = 36 ∨ k = 37 ∨ k = 45 ∨ k = 52 ∨ k = 53 ∨ k = 57) : sptB k s = (!s.toList.isEmpty && (!Lib.contains s.toList [32] && Lib.contains (wordsP k) (32 :: (s.toList ++ [32])))) := by
 have e : wordsP k = jn (wordsT k) := by rcases h with rfl | rfl | rfl | rfl | rfl | rfl | rfl | rfl <;> rfl
 have hn : noneT k = false := by rcases h with rfl | rfl | rfl | rfl | rfl | rfl | rfl | rfl <;> rfl
 rw [spt_other s (by omega) (by omega), hn, Bool.and_false, Bool.false_or, e, ← among_jn (wordsT_fine k)]
 congr 1
 cases s.toList with
 | nil => rfl
 | cons a l => simp
theorem spt_none {k : Nat} (s : ByteArray) (h : ¬ (k = 26 ∨ k = 27 ∨ k = 5 ∨ k = 7 ∨ k = 15 ∨ k = 34 ∨ k = 66)) (hw : wordsP k = []) : sptB k s = s.toList.isEmpty := by
 have hk : ¬ (k = 3 ∨ k = 4) ∧ k ≠ 36 ∧ k ≠ 37 ∧ k ≠ 45 ∧ k ≠ 52 ∧ k ≠ 53 ∧ k ≠ 57 := by
  unfold wordsP at hw
  have ne : ∀ ws, jn ws ≠ [] := fun ws => by obtain ⟨t, ht⟩ := jn_head ws; rw [ht]; simp
  by_cases h1 : k = 3 ∨ k = 4
  ·rw [if_pos h1] at hw; exact absurd hw (ne _)
  rw [if_neg h1] at hw
  by_cases h2 : k = 36
  ·rw [if_pos h2] at hw; exact absurd hw (ne _)
  rw [if_neg h2] at hw
  by_cases h3 : k = 37
  ·rw [if_pos h3] at hw; exact absurd hw (ne _)
  rw [if_neg h3] at hw
  by_cases h4 : k = 45
  ·rw [if_pos h4] at hw; exact absurd hw (ne _)
  rw [if_neg h4] at hw
  by_cases h5 : k = 52
  ·rw [if_pos h5] at hw; exact absurd hw (ne _)
  rw [if_neg h5] at hw
  by_cases h6 : k = 53
  ·rw [if_pos h6] at hw; exact absurd hw (ne _)
  rw [if_neg h6] at hw
  by_cases h7 : k = 57
  ·rw [if_pos h7] at hw; exact absurd hw (ne _)
  exact ⟨h1, h2, h3, h4, h5, h6, h7⟩
 rw [spt_other s (by omega) (by omega)]
 have hn : noneT k = true := by unfold noneT; simp; omega
 have ht : wordsT k = [] := by
  unfold wordsT
  rw [if_neg (by omega), if_neg (by omega), if_neg (by omega), if_neg (by omega), if_neg (by omega), if_neg (by omega), if_neg (by omega), if_neg (by omega), if_neg (by omega), if_neg (by omega), if_neg (by omega)]
 rw [hn, ht]; simp
theorem words_or (k : Nat) : wordsP k = [] ∨ ((k = 3 ∨ k = 4 ∨ k = 36 ∨ k = 37 ∨ k = 45 ∨ k = 52 ∨ k = 53 ∨ k = 57) ∧ wordsP k ≠ []) := by
 by_cases h : k = 3 ∨ k = 4 ∨ k = 36 ∨ k = 37 ∨ k = 45 ∨ k = 52 ∨ k = 53 ∨ k = 57
 ·refine Or.inr ⟨h, ?_⟩
  rcases h with rfl | rfl | rfl | rfl | rfl | rfl | rfl | rfl <;> decide
 ·left
  unfold wordsP
  rw [if_neg (by omega), if_neg (by omega), if_neg (by omega), if_neg (by omega), if_neg (by omega), if_neg (by omega), if_neg (by omega)]
set_option maxRecDepth 100000 in
set_option maxHeartbeats 16000000 in
theorem term_spelt (k : Nat) (hk : k < 256) (s : ByteArray) (w : World) (hT : Tabs w) (hM : MaxC w) (hs : s.size ≤ 2147483647) :
  Calls Tryz.prog 70 #[.int .u8 (k : Int), .string s] w fun e w' => e = .returned (.bool (sptB k s)) ∧ Below w.heap.size w w' := by
 have HQ : RowKit.Hid (∀ x w', sptB k s = x → Below w.heap.size w w' → (fun (e : Ending) w' => e = .returned (.bool (sptB k s)) ∧ Below w.heap.size w w') (.returned (.bool x)) w') := Lib.hid fun x w' h hb => ⟨by rw [h], hb⟩
 generalize (fun (e : Ending) w' => e = .returned (.bool (sptB k s)) ∧ Below w.heap.size w w') = Q at *
 have HM := Lib.hid hM
 clear hM
 by_cases k26 : k = 26
 ·have C1 := Lib.hid (class_Name s w hT)
  have HV := Lib.hid (show sptB k s = name s by unfold sptB; rw [if_pos k26])
  have f26 : ((k : Int) == 26) = true := by rw [beq_iff_eq]; omega
  clear k26
  go_enter Tryz.func70, Tryz.ntmps70
  go_wp2_with fail
  refine C1.out.mono ?_
  rintro e w1 ⟨rfl, hb⟩
  generalize name s = x at *
  go_wp2_with fail
  exact HQ.out _ _ HV.out hb
 have f26 : ((k : Int) == 26) = false := by rw [beq_eq_false_iff_ne]; omega
 by_cases k27 : k = 27
 ·have C1 := Lib.hid (quoted_Value s w hT HM.out hs)
  have C2 := Lib.hid (fun w => number_Kind s hs w)
  have HV := Lib.hid (show sptB k s = (decide ((value s).2 = 0) || decide (kindL (byts s) ≠ 0)) by unfold sptB; rw [if_neg k26, if_pos k27])
  have f27 : ((k : Int) == 27) = true := by rw [beq_iff_eq]; omega
  clear k26 k27
  go_enter Tryz.func70, Tryz.ntmps70
  go_wp2_with fail
  refine C1.out.mono ?_
  intro e w1 h1
  unfold valuePost at h1
  obtain ⟨rfl, hb⟩ := h1
  have HB := Lib.hid hb
  clear hb
  generalize value s = v at *
  obtain ⟨v1, v2⟩ := v
  generalize kindL (byts s) = q at *
  simp only [] at HV
  by_cases hv : v2 = 0
  ·have hvb : (v2 == 0) = true := by rw [beq_iff_eq]; exact hv
   have HX := Lib.hid (show sptB k s = true by rw [HV.out, decide_eq_true hv, Bool.true_or])
   clear hv HV
   go_wp2_with fail
   exact HQ.out _ _ HX.out HB.out
  ·have hvb : (v2 == 0) = false := by rw [beq_eq_false_iff_ne]; exact hv
   have HX := Lib.hid (show sptB k s = decide (q ≠ 0) by rw [HV.out, decide_eq_false hv, Bool.false_or])
   clear hv HV
   go_wp2_with fail
   refine (C2.out _).mono ?_
   rintro e w2 ⟨rfl, hb2⟩
   have HB2 := Lib.hid (bthen HB.out hb2)
   clear hb2
   go_wp2_with fail
   exact HQ.out _ _ (by rw [HX.out, Bool.eq_iff_iff]; simp; try omega) HB2.out
 have f27 : ((k : Int) == 27) = false := by rw [beq_eq_false_iff_ne]; omega
 have HO := Lib.hid (spt_other s k26 k27)
 by_cases kk : k = 5 ∨ k = 5
 ·have f5 : ((k : Int) == 5) = true := by rw [beq_iff_eq]; omega
  have HV := Lib.hid (show sptB k s = (s.toList.isEmpty || (s.toList == [46])) by rw [HO.out, Bool.eq_iff_iff]; rcases kk with rfl | rfl <;> simp [noneT, wordsT])
  clear HO kk k26 k27
  by_cases he : s.toList.isEmpty = true
  ·have HX := Lib.hid (show sptB k s = true by rw [HV.out, he]; rfl)
   have he2 : s.toList = [] := by simpa using he
   go_enter Tryz.func70, Tryz.ntmps70
   go_wp2_with fail
   all_goals exact HQ.out _ _ HX.out (Below.refl _ _)
  ·have he1 : s.toList.isEmpty = false := by simpa using he
   have HX := Lib.hid (show sptB k s = (s.toList == [46]) by rw [HV.out, he1, Bool.false_or])
   clear he
   go_enter Tryz.func70, Tryz.ntmps70
   go_wp2_with fail
   all_goals exact HQ.out _ _ HX.out (Below.refl _ _)
 have k5 : k ≠ 5 := by omega
 have f5 : ((k : Int) == 5) = false := by rw [beq_eq_false_iff_ne]; omega
 clear kk
 by_cases kk : k = 7 ∨ k = 7
 ·have f7 : ((k : Int) == 7) = true := by rw [beq_iff_eq]; omega
  have HV := Lib.hid (show sptB k s = (s.toList.isEmpty || (s.toList == [61])) by rw [HO.out, Bool.eq_iff_iff]; rcases kk with rfl | rfl <;> simp [noneT, wordsT])
  clear HO kk k26 k27 k5
  by_cases he : s.toList.isEmpty = true
  ·have HX := Lib.hid (show sptB k s = true by rw [HV.out, he]; rfl)
   have he2 : s.toList = [] := by simpa using he
   go_enter Tryz.func70, Tryz.ntmps70
   go_wp2_with fail
   all_goals exact HQ.out _ _ HX.out (Below.refl _ _)
  ·have he1 : s.toList.isEmpty = false := by simpa using he
   have HX := Lib.hid (show sptB k s = (s.toList == [61]) by rw [HV.out, he1, Bool.false_or])
   clear he
   go_enter Tryz.func70, Tryz.ntmps70
   go_wp2_with fail
   all_goals exact HQ.out _ _ HX.out (Below.refl _ _)
 have k7 : k ≠ 7 := by omega
 have f7 : ((k : Int) == 7) = false := by rw [beq_eq_false_iff_ne]; omega
 clear kk
 by_cases kk : k = 15 ∨ k = 15
 ·have f15 : ((k : Int) == 15) = true := by rw [beq_iff_eq]; omega
  have HV := Lib.hid (show sptB k s = (s.toList.isEmpty || (s.toList == [46, 46, 46])) by rw [HO.out, Bool.eq_iff_iff]; rcases kk with rfl | rfl <;> simp [noneT, wordsT])
  clear HO kk k26 k27 k5 k7
  by_cases he : s.toList.isEmpty = true
  ·have HX := Lib.hid (show sptB k s = true by rw [HV.out, he]; rfl)
   have he2 : s.toList = [] := by simpa using he
   go_enter Tryz.func70, Tryz.ntmps70
   go_wp2_with fail
   all_goals exact HQ.out _ _ HX.out (Below.refl _ _)
  ·have he1 : s.toList.isEmpty = false := by simpa using he
   have HX := Lib.hid (show sptB k s = (s.toList == [46, 46, 46]) by rw [HV.out, he1, Bool.false_or])
   clear he
   go_enter Tryz.func70, Tryz.ntmps70
   go_wp2_with fail
   all_goals exact HQ.out _ _ HX.out (Below.refl _ _)
 have k15 : k ≠ 15 := by omega
 have f15 : ((k : Int) == 15) = false := by rw [beq_eq_false_iff_ne]; omega
 clear kk
 by_cases kk : k = 34 ∨ k = 34
 ·have f34 : ((k : Int) == 34) = true := by rw [beq_iff_eq]; omega
  have HV := Lib.hid (show sptB k s = (s.toList.isEmpty || (s.toList == [46, 46, 46])) by rw [HO.out, Bool.eq_iff_iff]; rcases kk with rfl | rfl <;> simp [noneT, wordsT])
  clear HO kk k26 k27 k5 k7 k15
  by_cases he : s.toList.isEmpty = true
  ·have HX := Lib.hid (show sptB k s = true by rw [HV.out, he]; rfl)
   have he2 : s.toList = [] := by simpa using he
   go_enter Tryz.func70, Tryz.ntmps70
   go_wp2_with fail
   all_goals exact HQ.out _ _ HX.out (Below.refl _ _)
  ·have he1 : s.toList.isEmpty = false := by simpa using he
   have HX := Lib.hid (show sptB k s = (s.toList == [46, 46, 46]) by rw [HV.out, he1, Bool.false_or])
   clear he
   go_enter Tryz.func70, Tryz.ntmps70
   go_wp2_with fail
   all_goals exact HQ.out _ _ HX.out (Below.refl _ _)
 have k34 : k ≠ 34 := by omega
 have f34 : ((k : Int) == 34) = false := by rw [beq_eq_false_iff_ne]; omega
 clear kk
 by_cases k66 : k = 66
 ·have f66 : ((k : Int) == 66) = true := by rw [beq_iff_eq]; omega
  have HV := Lib.hid (show sptB k s = (s.toList.isEmpty || ((s.toList == [61]) || (s.toList == [58, 61]))) by rw [HO.out, Bool.eq_iff_iff, k66]; simp [noneT, wordsT])
  clear HO k66 k26 k27 k5 k7 k15 k34
  by_cases he : s.toList.isEmpty = true
  ·have HX := Lib.hid (show sptB k s = true by rw [HV.out, he]; rfl)
   have he2 : s.toList = [] := by simpa using he
   go_enter Tryz.func70, Tryz.ntmps70
   go_wp2_with fail
   all_goals exact HQ.out _ _ HX.out (Below.refl _ _)
  ·have he1 : s.toList.isEmpty = false := by simpa using he
   clear he
   cases hq : (s.toList == [61]) with
   | true =>
    have HX := Lib.hid (show sptB k s = true by rw [HV.out, he1, hq]; rfl)
    clear HV
    go_enter Tryz.func70, Tryz.ntmps70
    go_wp2_with fail
    all_goals exact HQ.out _ _ HX.out (Below.refl _ _)
   | false =>
    have HX := Lib.hid (show sptB k s = (s.toList == [58, 61]) by rw [HV.out, he1, hq]; rfl)
    clear HV
    go_enter Tryz.func70, Tryz.ntmps70
    go_wp2_with fail
    all_goals exact HQ.out _ _ HX.out (Below.refl _ _)
 have f66 : ((k : Int) == 66) = false := by rw [beq_eq_false_iff_ne]; omega
 have C1 := Lib.hid (term_words k hk w)
 rcases words_or k with hw | ⟨hw, hne⟩
 ·have HX := Lib.hid (spt_none s (by omega) hw)
  rw [hw] at C1
  clear hw HO k66 k26 k27 k5 k7 k15 k34
  go_enter Tryz.func70, Tryz.ntmps70
  go_wp2_with fail
  refine C1.out.mono ?_
  rintro e w1 ⟨rfl, rfl⟩
  go_wp2_with fail
  exact HQ.out _ _ HX.out (Below.refl _ _)
 ·have HV := Lib.hid (spt_words s hw)
  obtain ⟨m, hm, _⟩ := HM.out
  have hAl : ((⟨(wordsP k).toArray⟩ : ByteArray).toList.isEmpty) = false := by
   rw [strB_toList]; cases h : wordsP k with
   | nil => exact absurd h hne
   | cons a l => rfl
  have hAz : (⟨(wordsP k).toArray⟩ : ByteArray).size ≤ 1000 := by
   have : ∀ k, k < 58 → (wordsP k).length ≤ 1000 := by decide
   show (wordsP k).toArray.size ≤ 1000
   simpa using this k (by omega)
  have CB1 := Lib.hid (Tryz.strings_Contains s ⟨#[32]⟩ m w (by omega) hm)
  have CB2 := Lib.hid (Tryz.strings_Contains ⟨(wordsP k).toArray⟩ ((⟨#[32]⟩ : ByteArray) ++ s ++ ⟨#[32]⟩) m w (by omega) hm)
  have hz1 : ¬ 9223372036854775807 < (⟨#[32]⟩ : ByteArray).size + s.size := by show ¬ _ < 1 + _; omega
  have hz2 : ¬ 9223372036854775807 < ((⟨#[32]⟩ : ByteArray) ++ s).size + (⟨#[32]⟩ : ByteArray).size := by rw [ByteArray.size_append]; show ¬ _ < 1 + _ + 1; omega
  have hcat : ((⟨#[32]⟩ : ByteArray) ++ s ++ ⟨#[32]⟩).data.toList = 32 :: (s.toList ++ [32]) := by rw [ByteArray.data_append, ByteArray.data_append, ByteArray.toList_eq]; simp
  rw [hcat] at CB2
  have e1 : (⟨(wordsP k).toArray⟩ : ByteArray).data.toList = wordsP k := by simp
  rw [e1] at CB2
  have e2 : s.data.toList = s.toList := (ByteArray.toList_eq s).symm
  rw [e2, show (⟨#[32]⟩ : ByteArray).data.toList = [32] from rfl] at CB1
  clear e1 e2 hcat hm hw hne HO k66 k26 k27 k5 k7 k15 k34 hAz
  generalize (⟨(wordsP k).toArray⟩ : ByteArray) = A at *
  generalize Lib.contains s.toList [32] = b1 at *
  generalize Lib.contains (wordsP k) (32 :: (s.toList ++ [32])) = b2 at *
  by_cases he : s.toList.isEmpty = true
  ·have he2 : s.toList = [] := by simpa using he
   have HX := Lib.hid (show sptB k s = false by rw [HV.out, he]; rfl)
   go_enter Tryz.func70, Tryz.ntmps70
   go_wp2_with fail
   refine C1.out.mono ?_
   rintro e w1 ⟨rfl, rfl⟩
   go_wp2_with fail
   exact HQ.out _ _ HX.out (Below.refl _ _)
  ·have he1 : s.toList.isEmpty = false := by simpa using he
   clear he
   cases b1 with
   | true =>
    have HX := Lib.hid (show sptB k s = false by rw [HV.out, he1]; rfl)
    go_enter Tryz.func70, Tryz.ntmps70
    go_wp2_with fail
    refine C1.out.mono ?_
    rintro e w1 ⟨rfl, rfl⟩
    go_wp2_with fail
    refine CB1.out.mono ?_
    rintro e w1 ⟨rfl, rfl⟩
    go_wp2_with fail
    exact HQ.out _ _ HX.out (Below.refl _ _)
   | false =>
    have HX := Lib.hid (show sptB k s = b2 by rw [HV.out, he1]; rfl)
    go_enter Tryz.func70, Tryz.ntmps70
    go_wp2_with fail
    refine C1.out.mono ?_
    rintro e w1 ⟨rfl, rfl⟩
    go_wp2_with fail
    refine CB1.out.mono ?_
    rintro e w1 ⟨rfl, rfl⟩
    go_wp2_with fail
    refine CB2.out.mono ?_
    rintro e w1 ⟨rfl, rfl⟩
    go_wp2_with fail
    exact HQ.out _ _ HX.out (Below.refl _ _)
end Go.Proofs.YtlkheofphafofaaGreatDoor
namespace Go.Proofs.YtlkheofphafofaaGreatDoor
set_option linter.all false
open Go.RowKit

def partB (p : Prt) : Bool := decide (p.1 ≤ 68) && (decide (((arL p.1).1 : Int) ≤ p.2.1) && ((decide (p.2.1 = (arL p.1).1) || (arL p.1).2) && sptB p.1 p.2.2))
def checkB (l : List Prt) : Bool := wellB l && l.all partB
def FineP (l : List Prt) : Prop := ∀ p ∈ l, p.1 < 256 ∧ p.2.2.size ≤ 2147483647
theorem FineP.at {l : List Prt} (h : FineP l) {k : Nat} (hk : k < l.length) : (l[k]).1 < 256 ∧ (l[k]).2.2.size ≤ 2147483647 := h _ (List.getElem_mem hk)
theorem check_bad {l : List Prt} {k : Nat} (hk : k < l.length) (h : partB l[k] = false) : checkB l = false := by
 unfold checkB
 have : l.all partB = false := by rw [List.all_eq_false]; exact ⟨l[k], List.getElem_mem hk, by simp [h]⟩
 rw [this, Bool.and_false]
theorem check_good {l : List Prt} (hw : wellB l = true) (h : ∀ j (hj : j < l.length), partB l[j] = true) : checkB l = true := by
 unfold checkB
 rw [hw, Bool.true_and, List.all_eq_true]
 intro p hp
 obtain ⟨i, hi, rfl⟩ := List.getElem_of_mem hp
 exact h i hi
def chkRel (l : List Prt) (w : World) (i : Value) (wr : World) : Prop := ∃ k : Nat, i = .int .i64 (k : Int) ∧ k ≤ l.length ∧ (∀ j (hj : j < l.length), j < k → partB l[j] = true) ∧ Below w.heap.size w wr
theorem chk_next {l : List Prt} {k : Nat} (hk : k < l.length) (h : partB l[k] = true) (hn : ∀ j (hj : j < l.length), j < k → partB l[j] = true) : ∀ j (hj : j < l.length), j < k + 1 → partB l[j] = true := by
 intro j hj hlt
 by_cases e : j = k
 ·subst e; exact h
 ·exact hn j hj (by omega)
set_option maxRecDepth 100000 in
set_option maxHeartbeats 16000000 in
theorem term_Check (l : List Prt) (hl : l.length ≤ 1000000000) (hf : FineP l) (v : Value) (w : World) (hT : Tabs w) (hM : MaxC w) (hr : PartRow w v l) :
  Calls Tryz.prog 44 #[v] w fun e w' => e = .returned (.int .i64 (if checkB l then 0 else 8)) ∧ Below w.heap.size w w' := by
 have HQ : RowKit.Hid (∀ x w', (if checkB l then (0 : Int) else 8) = x → Below w.heap.size w w' → (fun (e : Ending) w' => e = .returned (.int .i64 (if checkB l then 0 else 8)) ∧ Below w.heap.size w w') (.returned (.int .i64 x)) w') := Lib.hid fun x w' h hb => ⟨by rw [h], hb⟩
 generalize (fun (e : Ending) w' => e = .returned (.int .i64 (if checkB l then 0 else 8)) ∧ Below w.heap.size w w') = Q at *
 have HR := Lib.hid hr
 have HF := Lib.hid hf
 have HT := Lib.hid hT
 have HM := Lib.hid hM
 have C1 := Lib.hid (term_Well l hl v w hr)
 obtain ⟨va, vcap, rfl, hvc⟩ := hr.slice
 clear hr hf hT hM
 go_enter Tryz.func44, Tryz.ntmps44
 go_wp2_with fail
 refine C1.out.mono ?_
 rintro e w1 ⟨rfl, hb1⟩
 have HB1 := Lib.hid hb1
 clear hb1 C1
 cases hw : wellB l with
 | false =>
  have HX := Lib.hid (show (if checkB l then (0 : Int) else 8) = 8 by unfold checkB; rw [hw]; rfl)
  clear hw
  go_wp2_with fail
  exact HQ.out _ _ HX.out HB1.out
 | true =>
  have HW := Lib.hid hw
  clear hw
  go_wp2_with fail
  go_loopw [12] (fun i wr => chkRel l w i wr) (fun i _ => l.length - (intOf i).toNat)
  case atStart => exact ⟨0, rfl, Nat.zero_le _, fun j _ h => by omega, HB1.out⟩
  case round =>
   obtain ⟨k, rfl, hk, hyes, hb⟩ := hrel
   have HB := Lib.hid hb
   have HY := Lib.hid hyes
   clear hb hyes
   by_cases hlt : k < l.length
   ·have hkl : (k : Int) < l.length := by omega
    obtain ⟨b1, o1, rfl, _, _, _, hc1⟩ := HR.out.at HB.out (show 0 < l.length by omega)
    obtain ⟨d0, d1, d2⟩ := hc1 k hlt
    have hk0 : (0 : Int) ≤ k := by omega
    have hkc : (k : Int) < vcap := by omega
    have hwk : IntKind.i64.wrap ((k : Int) + 1) = (k : Int) + 1 := by rw [IntKind.wrap_i64]; omega
    obtain ⟨hk256, hsz⟩ := HF.out.at hlt
    have HBAD := Lib.hid (fun (h : partB l[k] = false) => show (if checkB l then (0 : Int) else 8) = 8 by rw [check_bad hlt h]; rfl)
    have HGOOD := Lib.hid (fun (h : partB l[k] = true) => chk_next hlt h HY.out)
    have HML : RowKit.Hid (l.length - (k + 1) < l.length - k) := Lib.hid (by omega)
    have HK1 : RowKit.Hid (k + 1 ≤ l.length) := Lib.hid hlt
    have hpd : partB l[k] = (decide ((l[k]).1 ≤ 68) && (decide (((arL (l[k]).1).1 : Int) ≤ (l[k]).2.1) && ((decide ((l[k]).2.1 = (arL (l[k]).1).1) || (arL (l[k]).1).2) && sptB (l[k]).1 (l[k]).2.2))) := rfl
    have HPD := Lib.hid hpd
    clear hc1 hpd
    generalize hpb : partB l[k] = pb at *
    have HPB := Lib.hid hpb
    clear hpb
    generalize l[k] = x at *
    obtain ⟨xk, xn, xw⟩ := x
    simp only [] at d0 d1 d2 hk256 hsz HPD
    have HPK := PK.alloc_new wr (xk, xn, xw)
    have p0 := HPK.c0; have p1 := HPK.c1; have p2 := HPK.c2
    have HBA := Lib.hid (HB.out.alloc HB.out.size (.cells #[.int .u8 (xk : Int), .int .i64 xn, .string xw] 48))
    have HTA := Lib.hid (HT.out.below HBA.out)
    have HMA := Lib.hid (HM.out.below HBA.out)
    have CA := Lib.hid (fun w => term_arity xk hk256 w)
    have CS := Lib.hid (term_spelt xk hk256 xw _ HTA.out HMA.out hsz)
    clear HPK HTA HMA hsz
    generalize arL xk = ar at *
    generalize sptB xk xw = sp at *
    obtain ⟨am, ab⟩ := ar
    simp only [] at p0 p1 p2 HPD
    by_cases c1 : xk ≤ 68
    ·have c1i : ¬ (68 : Int) < (xk : Int) := by omega
     by_cases c2 : (am : Int) ≤ xn
     ·have c2i : ¬ xn < (am : Int) := by omega
      by_cases c3 : xn = (am : Int)
      ·have c3i : ¬ (am : Int) < xn := by omega
       have HP := Lib.hid (show pb = sp by rw [HPD.out, decide_eq_true c1, decide_eq_true c2, decide_eq_true c3]; simp)
       clear c3 c2 c1 HPD
       go_wp2_with fail
       refine (CA.out _).mono ?_
       rintro e w2 ⟨rfl, rfl⟩
       go_wp2_with fail
       refine CS.out.mono ?_
       rintro e w2 ⟨rfl, hb2⟩
       have HB2 := Lib.hid (bthen HBA.out hb2)
       clear hb2
       cases sp with
       | false =>
        have HX := Lib.hid (HBAD.out HP.out)
        go_wp2_with fail
        exact HQ.out _ _ HX.out HB2.out
       | true =>
        have HRL : RowKit.Hid (chkRel l w (.int .i64 ((k + 1 : Nat) : Int)) w2) := Lib.hid ⟨k + 1, rfl, HK1.out, HGOOD.out HP.out, HB2.out⟩
        go_wp2_with fail
        refine ⟨?_, (by have := HML.out; simp [intOf]; try omega)⟩
        first
         | exact HRL.out
         | (repeat apply Exists.intro
            refine ⟨?_, rfl⟩
            exact HRL.out)
      ·have c3i : (am : Int) < xn := by omega
       cases ab with
       | false =>
        have HP := Lib.hid (show pb = false by rw [HPD.out, decide_eq_false c3]; simp)
        have HX := Lib.hid (HBAD.out HP.out)
        clear c3 c2 c1 HPD
        go_wp2_with fail
        refine (CA.out _).mono ?_
        rintro e w2 ⟨rfl, rfl⟩
        go_wp2_with fail
        exact HQ.out _ _ HX.out HBA.out
       | true =>
        have HP := Lib.hid (show pb = sp by rw [HPD.out, decide_eq_true c1, decide_eq_true c2]; simp)
        clear c3 c2 c1 HPD
        go_wp2_with fail
        refine (CA.out _).mono ?_
        rintro e w2 ⟨rfl, rfl⟩
        go_wp2_with fail
        refine CS.out.mono ?_
        rintro e w2 ⟨rfl, hb2⟩
        have HB2 := Lib.hid (bthen HBA.out hb2)
        clear hb2
        cases sp with
        | false =>
         have HX := Lib.hid (HBAD.out HP.out)
         go_wp2_with fail
         exact HQ.out _ _ HX.out HB2.out
        | true =>
         have HRL : RowKit.Hid (chkRel l w (.int .i64 ((k + 1 : Nat) : Int)) w2) := Lib.hid ⟨k + 1, rfl, HK1.out, HGOOD.out HP.out, HB2.out⟩
         go_wp2_with fail
         refine ⟨?_, (by have := HML.out; simp [intOf]; try omega)⟩
         first
          | exact HRL.out
          | (repeat apply Exists.intro
             refine ⟨?_, rfl⟩
             exact HRL.out)
     ·have c2i : xn < (am : Int) := by omega
      have HP := Lib.hid (show pb = false by rw [HPD.out, decide_eq_false c2]; simp)
      have HX := Lib.hid (HBAD.out HP.out)
      clear c2 c1 HPD
      go_wp2_with fail
      refine (CA.out _).mono ?_
      rintro e w2 ⟨rfl, rfl⟩
      go_wp2_with fail
      exact HQ.out _ _ HX.out HBA.out
    ·have c1i : (68 : Int) < (xk : Int) := by omega
     have HP := Lib.hid (show pb = false by rw [HPD.out, decide_eq_false c1]; simp)
     have HX := Lib.hid (HBAD.out HP.out)
     clear c1 HPD
     go_wp2_with fail
     refine (CA.out _).mono ?_
     rintro e w2 ⟨rfl, rfl⟩
     go_wp2_with fail
     exact HQ.out _ _ HX.out HBA.out
   ·have hkl : ¬ (k : Int) < l.length := by omega
    have HX := Lib.hid (show (if checkB l then (0 : Int) else 8) = 0 by rw [check_good HW.out fun j hj => HY.out j hj (by omega)]; rfl)
    go_wp2_with fail
    exact HQ.out _ _ HX.out HB.out
end Go.Proofs.YtlkheofphafofaaGreatDoor
namespace Go.Proofs.YtlkheofphafofaaGreatDoor
set_option linter.all false

def holeB (r : RuleM) (i : Nat) : Bool := match r.holes[i]? with
 | none => true
 | some h => !(r.holes.take i).any (fun g => decide (g.1 = h.1)) && (name h.1 && (decide (1 ≤ h.2 ∧ h.2 ≤ 7) && (decide (1 ≤ placesZ r.fnd h) && decide (0 ≤ placesZ r.by' h))))
def sevN (hs : List Hl) : Nat := (hs.filter fun h => isSev h.2).length
def ruleTop (r : RuleM) : Bool := name r.nm && (decide (1 ≤ r.goal ∧ r.goal ≤ 3) && (checkB r.fnd && (checkB r.by' && !(decide (r.goal = 3) && decide (kindAt r.by' 0 ≠ 13)))))
def ruleZ (r : RuleM) : Int :=
 if ruleTop r = false then 10
 else if 16 < r.holes.length ∨ 2 < sevN r.holes then 14
 else if ∀ i, i < r.holes.length → holeB r i = true then 0 else 11
theorem checkB_inv {l : List Prt} (h : checkB l = true) : wellB l = true ∧ ∀ p (hp : p < l.length), partB l[p] = true := by
 unfold checkB at h
 simp only [Bool.and_eq_true, List.all_eq_true] at h
 exact ⟨h.1, fun p hp => h.2 _ (List.getElem_mem hp)⟩
theorem partB_leaf {p : Prt} (h : partB p = true) (hk : p.1 = 26) : p.2.1 = 0 := by
 unfold partB at h
 simp only [Bool.and_eq_true, Bool.or_eq_true, decide_eq_true_eq] at h
 rw [hk] at h
 have e : arL 26 = (0, false) := rfl
 rw [e] at h
 rcases h.2.2.1 with h1 | h1
 ·simpa using h1
 ·cases h1
theorem partB_stmt {p : Prt} (h : partB p = true) (hk : p.1 = 50) : p.2.1 = 1 := by
 unfold partB at h
 simp only [Bool.and_eq_true, Bool.or_eq_true, decide_eq_true_eq] at h
 rw [hk] at h
 have e : arL 50 = (1, false) := rfl
 rw [e] at h
 rcases h.2.2.1 with h1 | h1
 ·simpa using h1
 ·cases h1
theorem placesZ_ok {l : List Prt} {h : Hl} (h0 : 0 ≤ placesZ l h) : ∀ p (hp : p < l.length), isPlace l[p] h = true → placeOK l h.2 p = true :=
 fun p hp => placesF_ok l h l.length 0 0 (Int.le_refl _) (by omega) h0 p hp (by omega)
theorem ruleZ_inv {r : RuleM} (h : ruleZ r = 0) : name r.nm = true ∧ (1 ≤ r.goal ∧ r.goal ≤ 3) ∧ checkB r.fnd = true ∧ checkB r.by' = true ∧ (r.goal = 3 → kindAt r.by' 0 = 13) ∧ r.holes.length ≤ 16 ∧ sevN r.holes ≤ 2 ∧ ∀ i, i < r.holes.length → holeB r i = true := by
 unfold ruleZ at h
 split at h
 ·cases h
 ·rename_i h1
  split at h
  ·cases h
  ·rename_i h2
   split at h
   ·rename_i h3
    have h1 : ruleTop r = true := by simpa using h1
    unfold ruleTop at h1
    simp only [Bool.and_eq_true, Bool.not_eq_true', decide_eq_true_eq, Bool.and_eq_false_iff, decide_eq_false_iff_not] at h1
    obtain ⟨a1, a2, a3, a4, a5⟩ := h1
    refine ⟨a1, a2, a3, a4, fun e => ?_, by omega, by omega, h3⟩
    rcases a5 with a5 | a5
    ·exact absurd e a5
    ·exact Decidable.not_not.1 a5
   ·cases h
theorem holeB_inv {r : RuleM} {i : Nat} (hi : i < r.holes.length) (h : holeB r i = true) : (∀ k (hk : k < i), (r.holes[k]).1 ≠ (r.holes[i]).1) ∧ name (r.holes[i]).1 = true ∧ (1 ≤ (r.holes[i]).2 ∧ (r.holes[i]).2 ≤ 7) ∧ 1 ≤ placesZ r.fnd r.holes[i] ∧ 0 ≤ placesZ r.by' r.holes[i] := by
 unfold holeB at h
 rw [List.getElem?_eq_getElem hi] at h
 simp only [Bool.and_eq_true, decide_eq_true_eq, Bool.not_eq_true'] at h
 refine ⟨fun k hk e => ?_, h.2⟩
 have h1 := h.1
 rw [List.any_eq_false] at h1
 have h2 : k < (r.holes.take i).length := by rw [List.length_take]; omega
 have := h1 ((r.holes.take i)[k]) (List.getElem_mem h2)
 rw [List.getElem_take] at this
 simp [e] at this
theorem rule_holes {r : RuleM} (h : ruleZ r = 0) : HolesOK r.fnd r.holes ∧ HolesOK r.by' r.holes ∧ ∀ i (hi : i < r.holes.length), ∃ p, p < r.fnd.length ∧ holeOf r.fnd r.holes p = some i := by
 obtain ⟨a1, a2, a3, a4, a5, a6, a7, a8⟩ := ruleZ_inv h
 have hu : ∀ (a b : Nat) (ha : a < r.holes.length) (hb : b < r.holes.length), (r.holes[a]).1 = (r.holes[b]).1 → a = b := by
  intro a b ha hb e
  rcases Nat.lt_trichotomy a b with c | c | c
  ·exact absurd e ((holeB_inv hb (a8 b hb)).1 a c)
  ·exact c
  ·exact absurd e.symm ((holeB_inv ha (a8 a ha)).1 b c)
 have f3 := checkB_inv a3
 have f4 := checkB_inv a4
 have H1 : HolesOK r.fnd r.holes := ⟨f3.1, hu, fun p hp => partB_leaf (f3.2 p hp), fun p hp => partB_stmt (f3.2 p hp), fun i hi p hp hpl => placesZ_ok (by have := (holeB_inv hi (a8 i hi)).2.2.2.1; omega) p hp hpl⟩
 refine ⟨H1, ⟨f4.1, hu, fun p hp => partB_leaf (f4.2 p hp), fun p hp => partB_stmt (f4.2 p hp), fun i hi p hp hpl => placesZ_ok (holeB_inv hi (a8 i hi)).2.2.2.2 p hp hpl⟩, fun i hi => ?_⟩
 have h1 := (holeB_inv hi (a8 i hi)).2.2.2.1
 obtain ⟨p, hp, hpl⟩ := placesF_some r.fnd r.holes[i] r.fnd.length 0 0 (Int.le_refl _) (by omega) (by unfold placesZ at h1; omega)
 exact H1.place_at hi hp hpl
def startS (hs : List Hl) : MSt := List.replicate hs.length none
theorem startS_no (hs : List Hl) (k : Nat) (q : Nat × Nat) : (startS hs)[k]? ≠ some (some q) := by
 unfold startS
 rw [List.getElem?_replicate]
 split <;> simp
def fuelZ (f : List Prt) : Nat := 2 * f.length + 1
def atZ (r : RuleM) (l : List Prt) (i : Int) : Option MSt :=
 if ruleZ r = 0 ∧ wellB l = true ∧ 0 ≤ i ∧ i < l.length then (aPart r.fnd l r.holes (fuelZ r.fnd) 0 i.toNat (startS r.holes)).head? else none
abbrev Bnd := ByteArray × Int × Int
def bindOf (h : Hl) (o : Option (Nat × Nat)) : Bnd := match o with
 | some q => (h.1, (q.1 : Int), (q.2 : Int))
 | none => (h.1, 0, 0)
def bindsOf (hs : List Hl) (σ : MSt) : List Bnd := hs.zipWith bindOf σ
def widest (l : List Prt) : Int := l.foldl (fun n p => max n p.2.1) 0
theorem foldl_max_ge (l : List Prt) : ∀ n : Int, n ≤ l.foldl (fun n p => max n p.2.1) n ∧ ∀ p ∈ l, p.2.1 ≤ l.foldl (fun n p => max n p.2.1) n := by
 induction l with
 | nil => intro n; simp
 | cons p l ih =>
  intro n
  rw [List.foldl_cons]
  obtain ⟨h1, h2⟩ := ih (max n p.2.1)
  refine ⟨by omega, fun q hq => ?_⟩
  rcases List.mem_cons.1 hq with rfl | hq
  ·omega
  ·exact h2 q hq
theorem widest_ge (l : List Prt) : 0 ≤ widest l ∧ ∀ i (hi : i < l.length), (l[i]).2.1 ≤ widest l := by
 have := foldl_max_ge l 0
 exact ⟨this.1, fun i hi => this.2 _ (List.getElem_mem hi)⟩
theorem atFit {r : RuleM} {l : List Prt} {i : Nat} (hr : ruleZ r = 0) (hl : wellB l = true) (hi : i < l.length) : MFit r.fnd l r.holes (widest l).toNat i := by
 have H := (rule_holes hr).1
 have hw := widest_ge l
 exact ⟨H.well, H.bare, H.top, ⟨_, well_rows hl⟩, hi, fun j hj => by have := hw.2 j hj; omega⟩
theorem atZ_inv {r : RuleM} {l : List Prt} {i : Int} {τ : MSt} (h : atZ r l i = some τ) : ruleZ r = 0 ∧ wellB l = true ∧ 0 ≤ i ∧ i < l.length ∧ τ ∈ aPart r.fnd l r.holes (fuelZ r.fnd) 0 i.toNat (startS r.holes) ∧ τ.length = r.holes.length ∧ (∀ h (hh : h < r.holes.length), ∃ q, τ[h]? = some (some q) ∧ Good1 l r.holes i.toNat (endB l i.toNat) h q) := by
 unfold atZ at h
 split at h
 ·rename_i hc
  obtain ⟨h1, h2, h3, h4⟩ := hc
  have hm := List.mem_of_head? h
  have H := rule_holes h1
  have hl := well_rows h2
  have hf0 := well_zero H.1.well
  refine ⟨h1, h2, h3, h4, hm, ?_, fun k hk => ?_⟩
  ·rw [← ((a_ext _ _ _ _).1 _ _ _ _ hm).1]; unfold startS; simp
  ·obtain ⟨p, hp, hpo⟩ := H.2.2 k hk
   obtain ⟨q, hq⟩ := (a_all _ _ _ H.1 _).1 0 _ _ _ hf0.1 H.1.top hm p k (Nat.zero_le _) (by rw [hf0.2]; exact hp) hpo
   rcases (a_good _ _ _ hl _).1 _ _ _ _ (by omega) H.1.top hm k q hq with g | g
   ·exact absurd g (startS_no _ _ _)
   ·exact ⟨q, hq, g⟩
 ·cases h
theorem piece_well {l : List Prt} {us : List Nat} (hl : rowsB l = some us) {i : Nat} (hi : i < l.length) : wellB (piece l i (endB l i)) = true ∧ (piece l i (endB l i)).length = endB l i - i := by
 obtain ⟨t, ht⟩ := piece_one hl hi
 have hg := endB_gt hl hi
 have := (rowsB_sum ht).1
 simp at this
 exact ⟨by rw [wellB_iff, ht, this], piece_len (by omega) hg.2⟩
theorem piece_sits {l : List Prt} {us : List Nat} (hl : rowsB l = some us) {a b : Nat} (hab : a ≤ b) {ts : List Nat} (hp : rowsB (piece l a b) = some ts) : Sits (piece l a b) l a := ⟨⟨_, hp⟩, ⟨_, hl⟩, ⟨_, drop_piece hab⟩⟩
theorem up_of {l : List Prt} {us : List Nat} (hl : rowsB l = some us) {i k : Nat} (hi : i < l.length) (h1 : i < k) (h2 : k < endB l i) (h3 : ∀ j, i < j → j < k → endB l j ≤ k) : upN l k = (i : Int) := by
 unfold upN
 have key : ∀ m, i < m → m ≤ k → upI l k m = (i : Int) := by
  intro m
  induction m with
  | zero => intro h; omega
  | succ m ih =>
   intro h4 h5
   rw [upI]
   by_cases e : m = i
   ·subst e; rw [if_pos h2]
   ·rw [if_neg (by have := h3 m (by omega) (by omega); omega)]
    exact ih (by omega) (by omega)
 exact key k h1 (Nat.le_refl _)
theorem end_within {l : List Prt} {us : List Nat} (hl : rowsB l = some us) {i j : Nat} (hi : i < l.length) (h1 : i ≤ j) (h2 : j < endB l i) : endB l j ≤ endB l i := by
 have hp := piece_well hl hi
 have hg := endB_gt hl hi
 have hS := piece_sits hl (show i ≤ endB l i by omega) (wellB_iff.1 hp.1)
 have hx : j - i < (piece l i (endB l i)).length := by rw [hp.2]; omega
 have e1 := hS.end_ hx
 have e2 := endB_gt (wellB_iff.1 hp.1) hx
 rw [hp.2] at e2
 rw [show j - i + i = j by omega] at e1
 omega
def kidAt (l : List Prt) : Nat → Nat → Nat
 | 0, k => k
 | n + 1, k => kidAt l n (endB l k)
theorem adv_kid {l : List Prt} {k stop : Nat} : ∀ {n b : Nat}, advT l n k stop = some b → kidAt l n k = b
 | 0, b, h => by rw [advT] at h; cases h; rfl
 | n + 1, b, h => by
  rw [advT] at h
  split at h
  ·rw [kidAt]
   exact adv_kid h
  ·cases h
theorem kidAt_snoc (l : List Prt) : ∀ (n k : Nat), kidAt l (n + 1) k = endB l (kidAt l n k)
 | 0, k => rfl
 | n + 1, k => by rw [kidAt, kidAt_snoc l n (endB l k)]; rfl
theorem kids_go {l : List Prt} {us : List Nat} (hl : rowsB l = some us) {i : Nat} (hi : i < l.length) : ∃ q : Nat, (l[i]).2.1 = (q : Int) ∧ kidAt l q (i + 1) = endB l i ∧ q ≤ l.length ∧ ∀ c, c < q → i < kidAt l c (i + 1) ∧ kidAt l c (i + 1) < l.length := by
 obtain ⟨q, h1, h2⟩ := adv_kids hl hi
 have hg := endB_gt hl hi
 have hle := adv_le hl _ _ _ _ hg.2 h2
 refine ⟨q, h1, adv_kid h2, by omega, fun c hc => ?_⟩
 have h3 := h2
 rw [show q = c + (q - c) by omega, adv_add] at h3
 cases hx : advT l c (i + 1) (endB l i) with
 | none => rw [hx] at h3; cases h3
 | some x =>
  rw [hx, Option.bind_some, show q - c = (q - c - 1) + 1 by omega, advT] at h3
  rw [adv_kid hx]
  split at h3
  ·have := adv_le hl _ _ _ _ hg.2 hx
   omega
  ·cases h3
end Go.Proofs.YtlkheofphafofaaGreatDoor
namespace Go.Proofs.YtlkheofphafofaaGreatDoor
set_option linter.all false
open Go.RowKit

theorem Row.cells {w w' : World} {v : Value} {n sz : Nat} {cs : List Value} (h : Row w v n sz cs) (hb : Below w.heap.size w w') (hn : 0 < n) :
  ∃ b off cap, v = .slice (some ⟨b, off, none⟩) n cap ∧ n ≤ cap ∧ b < w.heap.size ∧ ∀ i, i < n * sz → w'.cell? ⟨b, off + i, none⟩ = cs[i]? := by
 obtain ⟨h1, a, cap, hv, hc, hz, h2⟩ := h
 obtain ⟨b, off, ha, hlt, hcell⟩ := h2 hn
 subst ha
 exact ⟨b, off, cap, hv, hc, hlt, fun i hi => by rw [hb.cell (p := ⟨b, off + i, none⟩) hlt]; exact hcell i hi⟩
theorem Row.shape {w : World} {v : Value} {n sz : Nat} {cs : List Value} (h : Row w v n sz cs) : ∃ a cap, v = .slice a n cap ∧ n ≤ cap := by
 obtain ⟨_, a, cap, hv, hc, _⟩ := h; exact ⟨a, cap, hv, hc⟩
theorem flat_at {α : Type} {g : α → List Value} {sz : Nat} (hg : ∀ x, (g x).length = sz) : ∀ (l : List α) (i j : Nat) (hi : i < l.length), j < sz → (l.flatMap g)[i * sz + j]? = (g l[i])[j]?
 | x :: l, 0, j, _, hj => by
  rw [List.flatMap_cons, Nat.zero_mul, Nat.zero_add, List.getElem?_append_left (by rw [hg]; exact hj)]; rfl
 | x :: l, i + 1, j, hi, hj => by
  have h1 : (g x).length ≤ (i + 1) * sz + j := by rw [hg, Nat.add_mul]; omega
  rw [List.flatMap_cons, List.getElem?_append_right h1, hg, show (i + 1) * sz + j - sz = i * sz + j by rw [Nat.add_mul]; omega]
  rw [flat_at hg l i j (by simpa using hi) hj]
  rfl
theorem flat_len {α : Type} {g : α → List Value} {sz : Nat} (hg : ∀ x, (g x).length = sz) : ∀ l : List α, (l.flatMap g).length = l.length * sz
 | [] => by simp
 | x :: l => by rw [List.flatMap_cons, List.length_append, hg, flat_len hg l, List.length_cons, Nat.add_mul]; omega
def holeV (h : Hl) : List Value := [.string h.1, .int .u8 (h.2 : Int)]
def holesV (hs : List Hl) : List Value := hs.flatMap holeV
theorem holesV_length (hs : List Hl) : (holesV hs).length = hs.length * 2 := flat_len (g := holeV) (sz := 2) (fun _ => rfl) hs
def HoleRow (w : World) (v : Value) (hs : List Hl) : Prop := Row w v hs.length 2 (holesV hs)
theorem HoleRow.below {w w' : World} {v : Value} {hs : List Hl} (h : HoleRow w v hs) (hb : Below w.heap.size w w') : HoleRow w' v hs := Row.below h hb
theorem HoleRow.at {w w' : World} {a : Option Addr} {n cap : Nat} {hs : List Hl} (h : HoleRow w (.slice a n cap) hs) (hb : Below w.heap.size w w') (hp : 0 < hs.length) :
  ∃ b off, a = some ⟨b, off, none⟩ ∧ n = hs.length ∧ hs.length ≤ cap ∧ b < w.heap.size ∧ ∀ i (hi : i < hs.length), w'.cell? ⟨b, off + i * 2, none⟩ = some (.string hs[i].1) ∧ w'.cell? ⟨b, off + i * 2 + 1, none⟩ = some (.int .u8 (hs[i].2 : Int)) := by
 obtain ⟨b, off, cap', hv, hc, hlt, hcell⟩ := Row.cells h hb hp
 simp only [Value.slice.injEq] at hv
 obtain ⟨rfl, rfl, rfl⟩ := hv
 refine ⟨b, off, rfl, rfl, hc, hlt, fun i hi => ⟨?_, ?_⟩⟩
 ·rw [hcell _ (by omega)]
  have := flat_at (g := holeV) (sz := 2) (fun _ => rfl) hs i 0 hi (by omega)
  rw [Nat.add_zero] at this
  exact this
 ·rw [Nat.add_assoc, hcell _ (by omega)]
  exact flat_at (g := holeV) (sz := 2) (fun _ => rfl) hs i 1 hi (by omega)
def bindV (b : Bnd) : List Value := [.string b.1, .int .i64 b.2.1, .int .i64 b.2.2]
def bindsV (bs : List Bnd) : List Value := bs.flatMap bindV
theorem bindsV_length (bs : List Bnd) : (bindsV bs).length = bs.length * 3 := flat_len (g := bindV) (sz := 3) (fun _ => rfl) bs
def BindRow (w : World) (v : Value) (bs : List Bnd) : Prop := Row w v bs.length 3 (bindsV bs)
theorem BindRow.below {w w' : World} {v : Value} {bs : List Bnd} (h : BindRow w v bs) (hb : Below w.heap.size w w') : BindRow w' v bs := Row.below h hb
theorem BindRow.at {w w' : World} {a : Option Addr} {n cap : Nat} {bs : List Bnd} (h : BindRow w (.slice a n cap) bs) (hb : Below w.heap.size w w') (hp : 0 < bs.length) :
  ∃ b off, a = some ⟨b, off, none⟩ ∧ n = bs.length ∧ bs.length ≤ cap ∧ b < w.heap.size ∧ ∀ i (hi : i < bs.length), w'.cell? ⟨b, off + i * 3, none⟩ = some (.string bs[i].1) ∧ w'.cell? ⟨b, off + i * 3 + 1, none⟩ = some (.int .i64 bs[i].2.1) ∧ w'.cell? ⟨b, off + i * 3 + 2, none⟩ = some (.int .i64 bs[i].2.2) := by
 obtain ⟨b, off, cap', hv, hc, hlt, hcell⟩ := Row.cells h hb hp
 simp only [Value.slice.injEq] at hv
 obtain ⟨rfl, rfl, rfl⟩ := hv
 refine ⟨b, off, rfl, rfl, hc, hlt, fun i hi => ⟨?_, ?_, ?_⟩⟩
 ·rw [hcell _ (by omega)]
  have := flat_at (g := bindV) (sz := 3) (fun _ => rfl) bs i 0 hi (by omega)
  rw [Nat.add_zero] at this
  exact this
 ·rw [Nat.add_assoc, hcell _ (by omega)]
  exact flat_at (g := bindV) (sz := 3) (fun _ => rfl) bs i 1 hi (by omega)
 ·rw [Nat.add_assoc, hcell _ (by omega)]
  exact flat_at (g := bindV) (sz := 3) (fun _ => rfl) bs i 2 hi (by omega)
def ruleAgg (r : RuleM) (vh vf vb : Value) : Value := .agg #[.string r.nm, .int .u8 (r.goal : Int), vh, vf, vb]
structure RuleIn (w : World) (r : RuleM) (vh vf vb : Value) : Prop where
 H : HoleRow w vh r.holes
 F : PartRow w vf r.fnd
 B : PartRow w vb r.by'
theorem RuleIn.below {w w' : World} {r : RuleM} {vh vf vb : Value} (h : RuleIn w r vh vf vb) (hb : Below w.heap.size w w') : RuleIn w' r vh vf vb := ⟨h.H.below hb, h.F.below hb, h.B.below hb⟩
def SmallL (l : List Prt) : Prop := l.length ≤ 1048576 ∧ ∀ p ∈ l, p.1 < 256 ∧ p.2.2.size ≤ 1048576
structure SmallR (r : RuleM) : Prop where
 n : r.nm.size ≤ 1048576
 g : r.goal < 256
 h : r.holes.length ≤ 1048576 ∧ ∀ x ∈ r.holes, x.1.size ≤ 1048576 ∧ x.2 < 256
 f : SmallL r.fnd
 b : SmallL r.by'
end Go.Proofs.YtlkheofphafofaaGreatDoor
namespace Go.Proofs.YtlkheofphafofaaGreatDoor
set_option linter.all false

def ordK (f : List Prt) (hs : List Hl) (k : Nat) : List Nat := ddL [] ((List.range k).filterMap (sevOf f hs))
theorem dd_snoc : ∀ (o acc : List Nat) (h : Nat), ddL acc (o ++ [h]) = if h ∈ ddL acc o then ddL acc o else ddL acc o ++ [h]
 | [], acc, h => by rw [List.nil_append, ddL, ddL]; split <;> rfl
 | k :: t, acc, h => by
  rw [List.cons_append, ddL, ddL]
  split
  ·exact dd_snoc t acc h
  ·exact dd_snoc t _ h
theorem ordK_none {f : List Prt} {hs : List Hl} {k : Nat} (h : sevOf f hs k = none) : ordK f hs (k + 1) = ordK f hs k := by
 unfold ordK
 rw [List.range_succ, List.filterMap_append]
 simp [h]
theorem ordK_some {f : List Prt} {hs : List Hl} {k x : Nat} (h : sevOf f hs k = some x) : ordK f hs (k + 1) = if x ∈ ordK f hs k then ordK f hs k else ordK f hs k ++ [x] := by
 unfold ordK
 rw [List.range_succ, List.filterMap_append]
 have : List.filterMap (sevOf f hs) [k] = [x] := by simp [h]
 rw [this, dd_snoc]
theorem ordK_all (f : List Prt) (hs : List Hl) : ordK f hs f.length = orderL f hs := by
 unfold ordK orderL occL
 rw [List.range_eq_range', Nat.sub_zero]
theorem ordK_lt {f : List Prt} {hs : List Hl} {k x : Nat} (h : x ∈ ordK f hs k) : x < hs.length := by
 unfold ordK at h
 rw [dd_mem] at h
 rcases h with h | h
 ·cases h
 ·rw [List.mem_filterMap] at h
  obtain ⟨p, _, hp⟩ := h
  exact (holeOf_inv (sevOf_sev f hs hp).2).1
theorem nodup_lt : ∀ (n : Nat) (l : List Nat), l.Nodup → (∀ x ∈ l, x < n) → l.length ≤ n
 | 0, l, _, h => by
  cases l with
  | nil => simp
  | cons x t => exact absurd (h x (by simp)) (by omega)
 | n + 1, l, hn, h => by
  by_cases hm : n ∈ l
  ·have h1 := nodup_lt n (l.erase n) (hn.erase n) (fun x hx => by
    rw [hn.mem_erase_iff] at hx
    have := h x hx.2
    omega)
   rw [List.length_erase_of_mem hm] at h1
   omega
  ·have h1 := nodup_lt n l hn (fun x hx => by
    have := h x hx
    have : x ≠ n := fun e => hm (e ▸ hx)
    omega)
   omega
theorem ordK_len (f : List Prt) (hs : List Hl) (k : Nat) : (ordK f hs k).length ≤ hs.length := by
 exact nodup_lt _ _ (dd_nodup _ _ List.nodup_nil) (fun x hx => ordK_lt hx)
def lensL (os D : List Nat) (n : Nat) : List Nat := (List.range n).map (LD os D)
theorem lensL_len (os D : List Nat) (n : Nat) : (lensL os D n).length = n := by unfold lensL; simp
theorem lensL_get (os D : List Nat) (n h : Nat) (hh : h < (lensL os D n).length) : (lensL os D n)[h] = LD os D h := by
 have hn : h < n := by rw [lensL_len] at hh; exact hh
 apply Option.some.inj
 rw [← List.getElem?_eq_getElem hh]
 unfold lensL
 rw [List.getElem?_map, List.getElem?_range hn]; rfl
theorem LD_at {os D : List Nat} (hn : os.Nodup) (hd : D.length = os.length) {k : Nat} (hk : k < os.length) : LD os D os[k] = D[k]'(by omega) := by
 have hj : os.idxOf? (os[k]) = some k := by
  rw [List.idxOf?, List.findIdx?_eq_some_iff_getElem]
  refine ⟨by omega, by simp, fun j hj => ?_⟩
  simp
  intro e
  exact List.pairwise_iff_getElem.1 hn j k (by omega) (by omega) hj e
 unfold LD
 rw [hj]
 simp [List.getD_eq_getElem?_getD, hd, hk]
theorem lensL_set {os D : List Nat} (hn : os.Nodup) (hd : D.length = os.length) {n k : Nat} (hk : k < os.length) (v : Nat) : (lensL os D n).set os[k] v = lensL os (D.set k v) n := by
 apply List.ext_getElem
 ·simp [lensL]
 ·intro h h1 h2
  rw [lensL_get]
  rw [List.length_set, lensL_len] at h1
  by_cases e : os[k] = h
  ·subst e
   rw [List.getElem_set_self, LD_at hn (by rw [List.length_set]; exact hd) hk, List.getElem_set_self]
  ·rw [List.getElem_set_ne e, lensL_get]
   by_cases hm : h ∈ os
   ·obtain ⟨j, hj, rfl⟩ := List.mem_iff_getElem.1 hm
    have hjk : k ≠ j := fun e2 => e (by subst e2; rfl)
    rw [LD_at hn hd hj, LD_at hn (by rw [List.length_set]; exact hd) hj, List.getElem_set_ne hjk]
   ·rw [LD_none hm, LD_none hm]
theorem lensL_zero (os : List Nat) (n : Nat) : lensL os (os.map fun _ => 0) n = List.replicate n 0 := by
 apply List.ext_getElem
 ·simp [lensL]
 ·intro h h1 h2
  rw [lensL_get, List.getElem_replicate]
  by_cases hm : h ∈ os
  ·rw [LD_map _ hm]
  ·exact LD_none hm
def zerosL (D : List Nat) (m : Nat) : List Nat := D.take m ++ List.replicate (D.length - m) 0
theorem zerosL_len (D : List Nat) {m : Nat} (hm : m ≤ D.length) : (zerosL D m).length = D.length := by unfold zerosL; simp; omega
theorem zerosL_all (D : List Nat) : zerosL D D.length = D := by unfold zerosL; simp
theorem od_get {D : List Nat} {m : Nat} (hm : m < D.length) : (zerosL D (m + 1))[m]? = some D[m] := by
 unfold zerosL
 rw [List.getElem?_append_left (by rw [List.length_take]; omega), List.getElem?_take_of_lt (by omega), List.getElem?_eq_getElem hm]
theorem od_set {D : List Nat} {m : Nat} (hm : m < D.length) (v : Nat) : (zerosL D (m + 1)).set m v = D.take m ++ v :: List.replicate (D.length - (m + 1)) 0 := by
 unfold zerosL
 have e : D.take (m + 1) = D.take m ++ [D[m]] := by rw [List.take_add_one, List.getElem?_eq_getElem hm]; rfl
 rw [e, List.append_assoc, List.set_append_right _ _ (by rw [List.length_take]; omega), List.length_take, Nat.min_eq_left (by omega), Nat.sub_self]
 rfl
theorem od_zero {D : List Nat} {m : Nat} (hm : m < D.length) : (zerosL D (m + 1)).set m 0 = zerosL D m := by
 rw [od_set hm]
 unfold zerosL
 rw [show D.length - m = (D.length - (m + 1)) + 1 by omega, List.replicate_succ]
theorem od_next {D : List Nat} {most m : Nat} (hm : m < D.length) (hz : ∀ i (hi : i < D.length), m + 1 ≤ i → D[i] = most) (hd : D[m] < most) : incrD most D = some ((zerosL D (m + 1)).set m (D[m] + 1)) := by
 have e : D = D.take m ++ D[m] :: D.drop (m + 1) := by
  rw [← List.drop_eq_getElem_cons hm, List.take_append_drop]
 have h := incr_at (most := most) (D.take m) D[m] (D.drop (m + 1)) (fun x hx => by
  obtain ⟨i, hi, rfl⟩ := List.mem_iff_getElem.1 hx
  rw [List.length_drop] at hi
  rw [List.getElem_drop]
  exact hz _ (by omega) (by omega)) hd
 rw [← e] at h
 rw [h, od_set hm]
 congr 2
 rw [List.map_const', List.length_drop]
theorem od_all {D : List Nat} {most : Nat} (hz : ∀ i (hi : i < D.length), D[i] = most) : incrD most D = none :=
 (incr_none (fun d hd => by obtain ⟨i, hi, rfl⟩ := List.mem_iff_getElem.1 hd; rw [hz i hi]; exact Nat.le_refl _)).2 fun d hd => by
  obtain ⟨i, hi, rfl⟩ := List.mem_iff_getElem.1 hd; exact hz i hi
theorem widest_le {l : List Prt} {n : Int} (hn : 0 ≤ n) (h : ∀ p ∈ l, p.2.1 ≤ n) : widest l ≤ n := by
 unfold widest
 have key : ∀ (l : List Prt) (a : Int), a ≤ n → (∀ p ∈ l, p.2.1 ≤ n) → l.foldl (fun n p => max n p.2.1) a ≤ n := by
  intro l
  induction l with
  | nil => intro a ha _; exact ha
  | cons p l ih =>
   intro a ha h
   rw [List.foldl_cons]
   refine ih _ ?_ (fun q hq => h q (by simp [hq]))
   have := h p (by simp)
   omega
 exact key l 0 hn h
theorem widest_well {l : List Prt} (hl : wellB l = true) : widest l ≤ l.length :=
 widest_le (by omega) fun p hp => by
  obtain ⟨i, hi, rfl⟩ := List.mem_iff_getElem.1 hp
  obtain ⟨ts, q, f1, f2, f3, _⟩ := kids_facts (well_rows hl) hi
  have := (rowsB_sum f1).2.1
  rw [List.length_drop] at this
  omega
end Go.Proofs.YtlkheofphafofaaGreatDoor
