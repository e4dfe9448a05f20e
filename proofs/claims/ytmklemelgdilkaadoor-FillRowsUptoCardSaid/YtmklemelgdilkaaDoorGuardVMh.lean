/- Layer 15: guard.Level and least, walked. -/
import Derived.Test.YtmklemelgdilkaaDoorGuardPMh
namespace Go.Proofs.YtmklemelgdilkaaDoor
set_option linter.all false
attribute [local irreducible] Calls
open Go.RowKit

def gvRel (s : ByteArray) (W1 : World) (iv : Value) (wr : World) : Prop := ∃ i : Nat, iv = .int .i64 (i : Int) ∧ i ≤ 5 ∧ (∀ j, j < i → s.toList ∉ lvl j) ∧ wr = W1
theorem lvW_hit {s : ByteArray} {i : Nat} (hi : i < 5) (hno : ∀ j, j < i → s.toList ∉ lvl j) (h : s.toList ∈ lvl i) : lvW s = i + 1 := by
 rw [lvW_of]
 have h5 : i = 0 ∨ i = 1 ∨ i = 2 ∨ i = 3 ∨ i = 4 := by omega
 rcases h5 with rfl | rfl | rfl | rfl | rfl
 ·rw [if_pos h]
 ·rw [if_neg (hno 0 (by omega)), if_pos h]
 ·rw [if_neg (hno 0 (by omega)), if_neg (hno 1 (by omega)), if_pos h]
 ·rw [if_neg (hno 0 (by omega)), if_neg (hno 1 (by omega)), if_neg (hno 2 (by omega)), if_pos h]
 ·rw [if_neg (hno 0 (by omega)), if_neg (hno 1 (by omega)), if_neg (hno 2 (by omega)), if_neg (hno 3 (by omega)), if_pos h]
theorem lvW_none {s : ByteArray} (hno : ∀ j, j < 5 → s.toList ∉ lvl j) : lvW s = 1 := by
 rw [lvW_of, if_neg (hno 0 (by omega)), if_neg (hno 1 (by omega)), if_neg (hno 2 (by omega)), if_neg (hno 3 (by omega)), if_neg (hno 4 (by omega))]
set_option maxRecDepth 100000 in
set_option maxHeartbeats 16000000 in
theorem guard_Level (p : Prt) (hs : p.2.2.size ≤ 1048576) (w : World) (hM : MaxC w) :
  Calls Tryd.prog 48 #[partA p] w fun e w' => e = .returned (.int .i64 (levelZ p : Int)) ∧ Below w.heap.size w w' := by
 have HQ : RowKit.Hid (∀ x w', (levelZ p : Int) = x → Below w.heap.size w w' → (fun (e : Ending) w' => e = .returned (.int .i64 (levelZ p : Int)) ∧ Below w.heap.size w w') (.returned (.int .i64 x)) w') := Lib.hid fun x w' h hb => ⟨by rw [h], hb⟩
 generalize (fun (e : Ending) w' => e = .returned (.int .i64 (levelZ p : Int)) ∧ Below w.heap.size w w') = Q at *
 obtain ⟨k, n, s⟩ := p
 unfold partA
 simp only [] at hs HQ ⊢
 have HX := Lib.hid ((Below.refl w.heap.size w).alloc (Nat.le_refl _) (.cells #[.int .u8 (k : Int), .int .i64 n, .string s] 38))
 have HPK : RowKit.Hid (PK (w.alloc (.cells #[.int .u8 (k : Int), .int .i64 n, .string s] 38)) w.heap.size (k, n, s)) := Lib.hid (PK.alloc_new w (k, n, s))
 by_cases h36 : k = 36
 ·subst h36
  have HZ := Lib.hid (HQ.out 6 _ rfl HX.out)
  go_enter Tryd.func48, Tryd.ntmps48
  go_wp2_with fail
  exact HZ.out
 by_cases h35 : k = 35
 ·subst h35
  have HZ := Lib.hid (HQ.out 6 _ rfl HX.out)
  go_enter Tryd.func48, Tryd.ntmps48
  go_wp2_with fail
  exact HZ.out
 have g36 : ((k : Int) == 36) = false := by rw [beq_eq_false_iff_ne]; omega
 have g35 : ((k : Int) == 35) = false := by rw [beq_eq_false_iff_ne]; omega
 by_cases h37 : k = 37
 case neg =>
  have g37 : ((k : Int) == 37) = false := by rw [beq_eq_false_iff_ne]; omega
  have HZ := Lib.hid (HQ.out 7 _ (by unfold levelZ; rw [if_neg (by simp; omega), if_neg h37]; rfl) HX.out)
  clear h35 h36 h37
  go_enter Tryd.func48, Tryd.ntmps48
  go_wp2_with fail
  exact HZ.out
 subst h37
 rw [show ((37 : Nat) : Int) = (37 : Int) from rfl] at HX HPK ⊢
 have HL : RowKit.Hid (levelZ (37, n, s) = lvW s) := Lib.hid (by unfold levelZ; rw [if_neg (fun h => by rcases h with h | h <;> simp at h), if_pos rfl])
 have CB := Lib.hid (fun (a b : ByteArray) (ha : a.size ≤ 2000000) W (hb : Below w.heap.size w W) => show Calls Tryd.prog 55 #[.string a, .string b] W fun e w' => e = .returned (.bool (Lib.contains a.data.toList b.data.toList)) ∧ w' = W by
  obtain ⟨m, hm, _⟩ := (hM.below hb)
  exact Tryd.strings_Contains a b m W (by omega) hm)
 have hz1 : ¬ 9223372036854775807 < (⟨#[32]⟩ : ByteArray).size + s.size := by show ¬ _ < 1 + _; omega
 have hz2 : ¬ 9223372036854775807 < ((⟨#[32]⟩ : ByteArray) ++ s).size + (⟨#[32]⟩ : ByteArray).size := by rw [ByteArray.size_append]; show ¬ _ < 1 + _ + 1; omega
 have hcat : ((⟨#[32]⟩ : ByteArray) ++ s ++ ⟨#[32]⟩).data.toList = 32 :: (s.toList ++ [32]) := by rw [ByteArray.data_append, ByteArray.data_append, ByteArray.toList_eq]; simp
 have HCAT := Lib.hid hcat
 have e2 : s.data.toList = s.toList := (ByteArray.toList_eq s).symm
 have HE2 := Lib.hid e2
 clear hcat e2 hM h35 h36 g35 g36
 go_enter Tryd.func48, Tryd.ntmps48
 go_upto_region 1 with (fail)
 generalize w.alloc (.cells #[.int .u8 (37 : Int), .int .i64 n, .string s] 38) = W1 at *
 have e3 := HPK.out.c2
 have e0 := HPK.out.c0
 simp only [] at e3 e0
 go_wp2_with fail
 clear e0
 go_loopw [13] (fun iv wr => gvRel s W1 iv wr) (fun iv _ => 5 - (intOf iv).toNat)
 case atStart => exact ⟨0, rfl, by omega, fun j hj => absurd hj (Nat.not_lt_zero _), rfl⟩
 case round =>
  obtain ⟨i, rfl, hi, hno, rfl⟩ := hrel
  have HNO := Lib.hid hno
  clear hno
  by_cases hlt : i < 5
  ·have hh := lvl_has i s
   have HNX : RowKit.Hid (s.toList ∉ lvl i → gvRel s wr (.int .i64 ((i : Int) + 1)) wr) := Lib.hid fun hn => ⟨i + 1, by push_cast; rfl, by omega, fun j hj => by
    by_cases e : j = i
    ·subst e; exact hn
    ·exact HNO.out j (by omega), rfl⟩
   have HYS : RowKit.Hid (s.toList ∈ lvl i → Q (.returned (.int .i64 ((i : Int) + 1))) wr) := Lib.hid fun hn => HQ.out _ wr (by rw [HL.out, lvW_hit hlt HNO.out hn]; push_cast; rfl) HX.out
   clear hh
   have hi5 : i = 0 ∨ i = 1 ∨ i = 2 ∨ i = 3 ∨ i = 4 := by omega
   have C1 := CB.out s ⟨#[32]⟩ (by omega) wr HX.out
   rw [HE2.out, show (⟨#[32]⟩ : ByteArray).data.toList = [32] from rfl] at C1
   have C1 := Lib.hid C1
   rcases hi5 with rfl | rfl | rfl | rfl | rfl
   ·have hh := lvl_has 0 s
    have ix : ∀ W : World, (Instr.index 105 (.agg #[.string ⟨#[32, 124, 124, 32]⟩, .string ⟨#[32, 38, 38, 32]⟩, .string ⟨#[32, 61, 61, 32, 33, 61, 32, 60, 32, 60, 61, 32, 62, 32, 62, 61, 32]⟩, .string ⟨#[32, 43, 32, 45, 32, 124, 32, 94, 32]⟩, .string ⟨#[32, 42, 32, 47, 32, 37, 32, 60, 60, 32, 62, 62, 32, 38, 32, 38, 94, 32]⟩]) (.int .i64 0)).run Tryd.prog W = .ok (.string ⟨#[32, 124, 124, 32]⟩) W := fun _ => by kernel_rfl
    rw [show jn (lvl 0) = [32, 124, 124, 32] from rfl] at hh
    have C2 := CB.out ⟨#[32, 124, 124, 32]⟩ ((⟨#[32]⟩ : ByteArray) ++ s ++ ⟨#[32]⟩) (by decide) wr HX.out
    rw [HCAT.out, show (⟨#[32, 124, 124, 32]⟩ : ByteArray).data.toList = [32, 124, 124, 32] from rfl] at C2
    have C2 := Lib.hid C2
    have HNX : RowKit.Hid (s.toList ∉ lvl 0 → gvRel s wr (.int .i64 1) wr) := Lib.hid fun hn => by have h := HNX.out hn; simpa using h
    have HYS : RowKit.Hid (s.toList ∈ lvl 0 → Q (.returned (.int .i64 1)) wr) := Lib.hid fun hn => by have h := HYS.out hn; simpa using h
    generalize Lib.contains [32, 124, 124, 32] (32 :: (s.toList ++ [32])) = b2 at *
    generalize Lib.contains s.toList [32] = b1 at *
    by_cases he : s.toList.isEmpty = true
    ·have he0 : s.toList = [] := by simpa using he
     have HZ := Lib.hid (HNX.out (by rw [he0] at hh ⊢; simpa using hh))
     clear hh he0
     go_wp2_with fail
     exact ⟨HZ.out, by simp only [intOf]; omega⟩
    ·have he1 : s.toList.isEmpty = false := by simpa using he
     have he2 : decide (s.toList ≠ []) = true := by simpa using he
     rw [he2] at hh
     clear he he2
     cases b1 with
     | true =>
      have HZ := Lib.hid (HNX.out (by simpa using hh))
      clear hh
      go_wp2_with fail
      refine C1.out.mono ?_
      rintro e w2 ⟨rfl, rfl⟩
      go_wp2_with fail
      go_roundw
      case rel => exact HZ.out
      case measure => simp only [intOf]; omega
     | false =>
      cases b2 with
      | true =>
       have HZ := Lib.hid (HYS.out (by simpa using hh))
       clear hh
       go_wp2_with fail
       refine C1.out.mono ?_
       rintro e w2 ⟨rfl, rfl⟩
       go_wp2_with fail
       refine C2.out.mono ?_
       rintro e w3 ⟨rfl, rfl⟩
       go_wp2_with fail
       exact HZ.out
      | false =>
       have HZ := Lib.hid (HNX.out (by simpa using hh))
       clear hh
       go_wp2_with fail
       refine C1.out.mono ?_
       rintro e w2 ⟨rfl, rfl⟩
       go_wp2_with fail
       refine C2.out.mono ?_
       rintro e w3 ⟨rfl, rfl⟩
       go_wp2_with fail
       go_roundw
       case rel => exact HZ.out
       case measure => simp only [intOf]; omega
   ·have hh := lvl_has 1 s
    have ix : ∀ W : World, (Instr.index 105 (.agg #[.string ⟨#[32, 124, 124, 32]⟩, .string ⟨#[32, 38, 38, 32]⟩, .string ⟨#[32, 61, 61, 32, 33, 61, 32, 60, 32, 60, 61, 32, 62, 32, 62, 61, 32]⟩, .string ⟨#[32, 43, 32, 45, 32, 124, 32, 94, 32]⟩, .string ⟨#[32, 42, 32, 47, 32, 37, 32, 60, 60, 32, 62, 62, 32, 38, 32, 38, 94, 32]⟩]) (.int .i64 1)).run Tryd.prog W = .ok (.string ⟨#[32, 38, 38, 32]⟩) W := fun _ => by kernel_rfl
    rw [show jn (lvl 1) = [32, 38, 38, 32] from rfl] at hh
    have C2 := CB.out ⟨#[32, 38, 38, 32]⟩ ((⟨#[32]⟩ : ByteArray) ++ s ++ ⟨#[32]⟩) (by decide) wr HX.out
    rw [HCAT.out, show (⟨#[32, 38, 38, 32]⟩ : ByteArray).data.toList = [32, 38, 38, 32] from rfl] at C2
    have C2 := Lib.hid C2
    have HNX : RowKit.Hid (s.toList ∉ lvl 1 → gvRel s wr (.int .i64 2) wr) := Lib.hid fun hn => by have h := HNX.out hn; simpa using h
    have HYS : RowKit.Hid (s.toList ∈ lvl 1 → Q (.returned (.int .i64 2)) wr) := Lib.hid fun hn => by have h := HYS.out hn; simpa using h
    generalize Lib.contains [32, 38, 38, 32] (32 :: (s.toList ++ [32])) = b2 at *
    generalize Lib.contains s.toList [32] = b1 at *
    by_cases he : s.toList.isEmpty = true
    ·have he0 : s.toList = [] := by simpa using he
     have HZ := Lib.hid (HNX.out (by rw [he0] at hh ⊢; simpa using hh))
     clear hh he0
     go_wp2_with fail
     exact ⟨HZ.out, by simp only [intOf]; omega⟩
    ·have he1 : s.toList.isEmpty = false := by simpa using he
     have he2 : decide (s.toList ≠ []) = true := by simpa using he
     rw [he2] at hh
     clear he he2
     cases b1 with
     | true =>
      have HZ := Lib.hid (HNX.out (by simpa using hh))
      clear hh
      go_wp2_with fail
      refine C1.out.mono ?_
      rintro e w2 ⟨rfl, rfl⟩
      go_wp2_with fail
      go_roundw
      case rel => exact HZ.out
      case measure => simp only [intOf]; omega
     | false =>
      cases b2 with
      | true =>
       have HZ := Lib.hid (HYS.out (by simpa using hh))
       clear hh
       go_wp2_with fail
       refine C1.out.mono ?_
       rintro e w2 ⟨rfl, rfl⟩
       go_wp2_with fail
       refine C2.out.mono ?_
       rintro e w3 ⟨rfl, rfl⟩
       go_wp2_with fail
       exact HZ.out
      | false =>
       have HZ := Lib.hid (HNX.out (by simpa using hh))
       clear hh
       go_wp2_with fail
       refine C1.out.mono ?_
       rintro e w2 ⟨rfl, rfl⟩
       go_wp2_with fail
       refine C2.out.mono ?_
       rintro e w3 ⟨rfl, rfl⟩
       go_wp2_with fail
       go_roundw
       case rel => exact HZ.out
       case measure => simp only [intOf]; omega
   ·have hh := lvl_has 2 s
    have ix : ∀ W : World, (Instr.index 105 (.agg #[.string ⟨#[32, 124, 124, 32]⟩, .string ⟨#[32, 38, 38, 32]⟩, .string ⟨#[32, 61, 61, 32, 33, 61, 32, 60, 32, 60, 61, 32, 62, 32, 62, 61, 32]⟩, .string ⟨#[32, 43, 32, 45, 32, 124, 32, 94, 32]⟩, .string ⟨#[32, 42, 32, 47, 32, 37, 32, 60, 60, 32, 62, 62, 32, 38, 32, 38, 94, 32]⟩]) (.int .i64 2)).run Tryd.prog W = .ok (.string ⟨#[32, 61, 61, 32, 33, 61, 32, 60, 32, 60, 61, 32, 62, 32, 62, 61, 32]⟩) W := fun _ => by kernel_rfl
    rw [show jn (lvl 2) = [32, 61, 61, 32, 33, 61, 32, 60, 32, 60, 61, 32, 62, 32, 62, 61, 32] from rfl] at hh
    have C2 := CB.out ⟨#[32, 61, 61, 32, 33, 61, 32, 60, 32, 60, 61, 32, 62, 32, 62, 61, 32]⟩ ((⟨#[32]⟩ : ByteArray) ++ s ++ ⟨#[32]⟩) (by decide) wr HX.out
    rw [HCAT.out, show (⟨#[32, 61, 61, 32, 33, 61, 32, 60, 32, 60, 61, 32, 62, 32, 62, 61, 32]⟩ : ByteArray).data.toList = [32, 61, 61, 32, 33, 61, 32, 60, 32, 60, 61, 32, 62, 32, 62, 61, 32] from rfl] at C2
    have C2 := Lib.hid C2
    have HNX : RowKit.Hid (s.toList ∉ lvl 2 → gvRel s wr (.int .i64 3) wr) := Lib.hid fun hn => by have h := HNX.out hn; simpa using h
    have HYS : RowKit.Hid (s.toList ∈ lvl 2 → Q (.returned (.int .i64 3)) wr) := Lib.hid fun hn => by have h := HYS.out hn; simpa using h
    generalize Lib.contains [32, 61, 61, 32, 33, 61, 32, 60, 32, 60, 61, 32, 62, 32, 62, 61, 32] (32 :: (s.toList ++ [32])) = b2 at *
    generalize Lib.contains s.toList [32] = b1 at *
    by_cases he : s.toList.isEmpty = true
    ·have he0 : s.toList = [] := by simpa using he
     have HZ := Lib.hid (HNX.out (by rw [he0] at hh ⊢; simpa using hh))
     clear hh he0
     go_wp2_with fail
     exact ⟨HZ.out, by simp only [intOf]; omega⟩
    ·have he1 : s.toList.isEmpty = false := by simpa using he
     have he2 : decide (s.toList ≠ []) = true := by simpa using he
     rw [he2] at hh
     clear he he2
     cases b1 with
     | true =>
      have HZ := Lib.hid (HNX.out (by simpa using hh))
      clear hh
      go_wp2_with fail
      refine C1.out.mono ?_
      rintro e w2 ⟨rfl, rfl⟩
      go_wp2_with fail
      go_roundw
      case rel => exact HZ.out
      case measure => simp only [intOf]; omega
     | false =>
      cases b2 with
      | true =>
       have HZ := Lib.hid (HYS.out (by simpa using hh))
       clear hh
       go_wp2_with fail
       refine C1.out.mono ?_
       rintro e w2 ⟨rfl, rfl⟩
       go_wp2_with fail
       refine C2.out.mono ?_
       rintro e w3 ⟨rfl, rfl⟩
       go_wp2_with fail
       exact HZ.out
      | false =>
       have HZ := Lib.hid (HNX.out (by simpa using hh))
       clear hh
       go_wp2_with fail
       refine C1.out.mono ?_
       rintro e w2 ⟨rfl, rfl⟩
       go_wp2_with fail
       refine C2.out.mono ?_
       rintro e w3 ⟨rfl, rfl⟩
       go_wp2_with fail
       go_roundw
       case rel => exact HZ.out
       case measure => simp only [intOf]; omega
   ·have hh := lvl_has 3 s
    have ix : ∀ W : World, (Instr.index 105 (.agg #[.string ⟨#[32, 124, 124, 32]⟩, .string ⟨#[32, 38, 38, 32]⟩, .string ⟨#[32, 61, 61, 32, 33, 61, 32, 60, 32, 60, 61, 32, 62, 32, 62, 61, 32]⟩, .string ⟨#[32, 43, 32, 45, 32, 124, 32, 94, 32]⟩, .string ⟨#[32, 42, 32, 47, 32, 37, 32, 60, 60, 32, 62, 62, 32, 38, 32, 38, 94, 32]⟩]) (.int .i64 3)).run Tryd.prog W = .ok (.string ⟨#[32, 43, 32, 45, 32, 124, 32, 94, 32]⟩) W := fun _ => by kernel_rfl
    rw [show jn (lvl 3) = [32, 43, 32, 45, 32, 124, 32, 94, 32] from rfl] at hh
    have C2 := CB.out ⟨#[32, 43, 32, 45, 32, 124, 32, 94, 32]⟩ ((⟨#[32]⟩ : ByteArray) ++ s ++ ⟨#[32]⟩) (by decide) wr HX.out
    rw [HCAT.out, show (⟨#[32, 43, 32, 45, 32, 124, 32, 94, 32]⟩ : ByteArray).data.toList = [32, 43, 32, 45, 32, 124, 32, 94, 32] from rfl] at C2
    have C2 := Lib.hid C2
    have HNX : RowKit.Hid (s.toList ∉ lvl 3 → gvRel s wr (.int .i64 4) wr) := Lib.hid fun hn => by have h := HNX.out hn; simpa using h
    have HYS : RowKit.Hid (s.toList ∈ lvl 3 → Q (.returned (.int .i64 4)) wr) := Lib.hid fun hn => by have h := HYS.out hn; simpa using h
    generalize Lib.contains [32, 43, 32, 45, 32, 124, 32, 94, 32] (32 :: (s.toList ++ [32])) = b2 at *
    generalize Lib.contains s.toList [32] = b1 at *
    by_cases he : s.toList.isEmpty = true
    ·have he0 : s.toList = [] := by simpa using he
     have HZ := Lib.hid (HNX.out (by rw [he0] at hh ⊢; simpa using hh))
     clear hh he0
     go_wp2_with fail
     exact ⟨HZ.out, by simp only [intOf]; omega⟩
    ·have he1 : s.toList.isEmpty = false := by simpa using he
     have he2 : decide (s.toList ≠ []) = true := by simpa using he
     rw [he2] at hh
     clear he he2
     cases b1 with
     | true =>
      have HZ := Lib.hid (HNX.out (by simpa using hh))
      clear hh
      go_wp2_with fail
      refine C1.out.mono ?_
      rintro e w2 ⟨rfl, rfl⟩
      go_wp2_with fail
      go_roundw
      case rel => exact HZ.out
      case measure => simp only [intOf]; omega
     | false =>
      cases b2 with
      | true =>
       have HZ := Lib.hid (HYS.out (by simpa using hh))
       clear hh
       go_wp2_with fail
       refine C1.out.mono ?_
       rintro e w2 ⟨rfl, rfl⟩
       go_wp2_with fail
       refine C2.out.mono ?_
       rintro e w3 ⟨rfl, rfl⟩
       go_wp2_with fail
       exact HZ.out
      | false =>
       have HZ := Lib.hid (HNX.out (by simpa using hh))
       clear hh
       go_wp2_with fail
       refine C1.out.mono ?_
       rintro e w2 ⟨rfl, rfl⟩
       go_wp2_with fail
       refine C2.out.mono ?_
       rintro e w3 ⟨rfl, rfl⟩
       go_wp2_with fail
       go_roundw
       case rel => exact HZ.out
       case measure => simp only [intOf]; omega
   ·have hh := lvl_has 4 s
    have ix : ∀ W : World, (Instr.index 105 (.agg #[.string ⟨#[32, 124, 124, 32]⟩, .string ⟨#[32, 38, 38, 32]⟩, .string ⟨#[32, 61, 61, 32, 33, 61, 32, 60, 32, 60, 61, 32, 62, 32, 62, 61, 32]⟩, .string ⟨#[32, 43, 32, 45, 32, 124, 32, 94, 32]⟩, .string ⟨#[32, 42, 32, 47, 32, 37, 32, 60, 60, 32, 62, 62, 32, 38, 32, 38, 94, 32]⟩]) (.int .i64 4)).run Tryd.prog W = .ok (.string ⟨#[32, 42, 32, 47, 32, 37, 32, 60, 60, 32, 62, 62, 32, 38, 32, 38, 94, 32]⟩) W := fun _ => by kernel_rfl
    rw [show jn (lvl 4) = [32, 42, 32, 47, 32, 37, 32, 60, 60, 32, 62, 62, 32, 38, 32, 38, 94, 32] from rfl] at hh
    have C2 := CB.out ⟨#[32, 42, 32, 47, 32, 37, 32, 60, 60, 32, 62, 62, 32, 38, 32, 38, 94, 32]⟩ ((⟨#[32]⟩ : ByteArray) ++ s ++ ⟨#[32]⟩) (by decide) wr HX.out
    rw [HCAT.out, show (⟨#[32, 42, 32, 47, 32, 37, 32, 60, 60, 32, 62, 62, 32, 38, 32, 38, 94, 32]⟩ : ByteArray).data.toList = [32, 42, 32, 47, 32, 37, 32, 60, 60, 32, 62, 62, 32, 38, 32, 38, 94, 32] from rfl] at C2
    have C2 := Lib.hid C2
    have HNX : RowKit.Hid (s.toList ∉ lvl 4 → gvRel s wr (.int .i64 5) wr) := Lib.hid fun hn => by have h := HNX.out hn; simpa using h
    have HYS : RowKit.Hid (s.toList ∈ lvl 4 → Q (.returned (.int .i64 5)) wr) := Lib.hid fun hn => by have h := HYS.out hn; simpa using h
    generalize Lib.contains [32, 42, 32, 47, 32, 37, 32, 60, 60, 32, 62, 62, 32, 38, 32, 38, 94, 32] (32 :: (s.toList ++ [32])) = b2 at *
    generalize Lib.contains s.toList [32] = b1 at *
    by_cases he : s.toList.isEmpty = true
    ·have he0 : s.toList = [] := by simpa using he
     have HZ := Lib.hid (HNX.out (by rw [he0] at hh ⊢; simpa using hh))
     clear hh he0
     go_wp2_with fail
     exact ⟨HZ.out, by simp only [intOf]; omega⟩
    ·have he1 : s.toList.isEmpty = false := by simpa using he
     have he2 : decide (s.toList ≠ []) = true := by simpa using he
     rw [he2] at hh
     clear he he2
     cases b1 with
     | true =>
      have HZ := Lib.hid (HNX.out (by simpa using hh))
      clear hh
      go_wp2_with fail
      refine C1.out.mono ?_
      rintro e w2 ⟨rfl, rfl⟩
      go_wp2_with fail
      go_roundw
      case rel => exact HZ.out
      case measure => simp only [intOf]; omega
     | false =>
      cases b2 with
      | true =>
       have HZ := Lib.hid (HYS.out (by simpa using hh))
       clear hh
       go_wp2_with fail
       refine C1.out.mono ?_
       rintro e w2 ⟨rfl, rfl⟩
       go_wp2_with fail
       refine C2.out.mono ?_
       rintro e w3 ⟨rfl, rfl⟩
       go_wp2_with fail
       exact HZ.out
      | false =>
       have HZ := Lib.hid (HNX.out (by simpa using hh))
       clear hh
       go_wp2_with fail
       refine C1.out.mono ?_
       rintro e w2 ⟨rfl, rfl⟩
       go_wp2_with fail
       refine C2.out.mono ?_
       rintro e w3 ⟨rfl, rfl⟩
       go_wp2_with fail
       go_roundw
       case rel => exact HZ.out
       case measure => simp only [intOf]; omega
  ·obtain rfl : i = 5 := by omega
   have HZ := Lib.hid (HQ.out 1 wr (by rw [HL.out, lvW_none HNO.out]; rfl) HX.out)
   go_wp2_with fail
   exact HZ.out
end Go.Proofs.YtmklemelgdilkaaDoor
