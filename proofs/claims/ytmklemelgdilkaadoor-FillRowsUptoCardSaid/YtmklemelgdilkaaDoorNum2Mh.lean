/- Layer 5: the program's functions, walked: powers, whole numbers, base 16, base 10, kinds. -/
import Derived.Test.YtmklemelgdilkaaDoorNumPMh
namespace Go.Proofs.YtmklemelgdilkaaDoor
set_option linter.all false
open Go.RowKit

theorem byts_tail (s : ByteArray) (i : Nat) : byts (s.extract i s.size) = (byts s).drop i := by
 unfold byts
 rw [extract_tail, List.map_drop]
theorem byts_cons (s : ByteArray) (h : 0 < s.size) : byts s = bt s 0 :: (byts s).drop 1 := by
 have := byts_drop s 0 h
 rwa [List.drop_zero] at this
theorem byts_head (s : ByteArray) (h : 0 < s.size) : (byts s).head? = some (bt s 0) := by rw [byts_cons s h]; rfl
theorem byts_none (s : ByteArray) (i : Nat) (h : s.size ≤ i) : (byts s)[i]? = none := List.getElem?_eq_none (by rw [byts_length]; exact h)
theorem byts_nil (s : ByteArray) (h : s.size = 0) : byts s = [] := List.eq_nil_of_length_eq_zero (by rw [byts_length]; exact h)
theorem empty_of (s : ByteArray) (h : s.size = 0) : s.toList.isEmpty = true := by
 rw [ByteArray.toList_eq, List.isEmpty_iff_length_eq_zero, ← size_data]; exact h
theorem full_of (s : ByteArray) (h : 0 < s.size) : s.toList.isEmpty = false := by
 rw [ByteArray.toList_eq, Bool.eq_false_iff]
 intro e
 rw [List.isEmpty_iff_length_eq_zero, ← size_data] at e; omega
theorem empty_beq (s : ByteArray) (h : s.size = 0) : (s.toList == []) = true := by
 rw [List.isEmpty_iff.1 (empty_of s h)]; rfl
theorem full_beq (s : ByteArray) (h : 0 < s.size) : (s.toList == []) = false := by
 rw [beq_eq_false_iff_ne]; intro e; have := full_of s h; rw [e] at this; cases this
theorem index_two (c1 c2 c : UInt8) : Lib.indexByte [c1, c2] c = if c1 = c then 0 else if c2 = c then 1 else -1 := by
 by_cases h1 : c1 = c
 ·simp [Lib.indexByte, h1]
 ·by_cases h2 : c2 = c
  ·simp [Lib.indexByte, h1, h2]
  ·simp [Lib.indexByte, h1, h2]
theorem u8_of_bt (s : ByteArray) (i : Nat) (c : UInt8) : (c = ((bt s i : Int)).toNat.toUInt8) ↔ bt s i = c.toNat := by
 have hl := bt_lt s i
 rw [Int.toNat_natCast]
 constructor
 ·intro h
  rw [h]
  show bt s i = (UInt8.ofNat (bt s i)).toNat
  rw [toNat_ofNat_lt _ hl]
 ·intro h
  apply UInt8.toNat_inj.1
  show c.toNat = (UInt8.ofNat (bt s i)).toNat
  rw [toNat_ofNat_lt _ hl, h]
set_option maxRecDepth 100000 in
set_option maxHeartbeats 4000000 in
theorem number_power (s : ByteArray) (c1 c2 : UInt8) (hs : s.size ≤ 2147483647) (w : World) :
  Calls Tryd.prog 80 #[.string s, .string ⟨#[c1, c2]⟩] w fun e w' => e = .returned (.int .i64 (powL c1.toNat c2.toNat (byts s) : Nat)) ∧ Below w.heap.size w w' := by
 have HQ : RowKit.Hid (∀ w' n, powL c1.toNat c2.toNat (byts s) = n → Below w.heap.size w w' → (fun (e : Ending) w' => e = .returned (.int .i64 (powL c1.toNat c2.toNat (byts s) : Nat)) ∧ Below w.heap.size w w') (.returned (.int .i64 (n : Nat))) w') := Lib.hid fun w' n h h2 => ⟨by rw [h], h2⟩
 generalize (fun (e : Ending) w' => e = .returned (.int .i64 (powL c1.toNat c2.toNat (byts s) : Nat)) ∧ Below w.heap.size w w') = Q at *
 by_cases h0 : s.size = 0
 ·have he := empty_of s h0
  have hb := empty_beq s h0
  have HV := Lib.hid (show powL c1.toNat c2.toNat (byts s) = 0 by rw [byts_nil s h0]; rfl)
  go_enter Tryd.func80, Tryd.ntmps80
  go_wp2_with fail
  show Q (.returned (.int .i64 0)) _
  exact HQ.out _ 0 HV.out (Below.refl _ _)
 ·have hpos : 0 < s.size := by omega
  have hpos' : (0 : Int) < s.size := by omega
  have he := full_of s hpos
  have hb := full_beq s hpos
  have y0 : ∀ h, ((s[0]'h).toNat : Int) = (bt s 0 : Int) := fun h => by rw [bt_at s 0 h]
  have CI : ∀ w, Calls Tryd.prog 64 #[.string ⟨#[c1, c2]⟩, .int .u8 (bt s 0 : Int)] w fun e w' => e = .returned (.int .i64 (if bt s 0 = c1.toNat then 0 else if bt s 0 = c2.toNat then 1 else -1)) ∧ w = w' := fun w => (Tryd.strings_IndexByte ⟨#[c1, c2]⟩ (bt s 0 : Int) w).mono fun e w' ⟨h1, h2⟩ => by
   refine ⟨?_, h2.symm⟩
   rw [h1]
   show Ending.returned (.int .i64 (Lib.indexByte [c1, c2] _)) = _
   rw [index_two]
   simp only [u8_of_bt]
  have hH := byts_head s hpos
  by_cases hc : bt s 0 = c1.toNat ∨ bt s 0 = c2.toNat
  ·have HV : RowKit.Hid (powL c1.toNat c2.toNat (byts s) = if 0 < rowL 10 ((byts s).drop (signed (byts s))) then signed (byts s) + rowL 10 ((byts s).drop (signed (byts s))) else 0) := Lib.hid (by
    unfold powL
    rw [if_pos (by rw [hH]; simpa using hc)])
   have CI2 : RowKit.Hid (∀ w, Calls Tryd.prog 64 #[.string ⟨#[c1, c2]⟩, .int .u8 (bt s 0 : Int)] w fun e w' => (e = .returned (.int .i64 0) ∨ e = .returned (.int .i64 1)) ∧ w = w') := Lib.hid fun w => (CI w).mono fun e w' ⟨h1, h2⟩ => by
    refine ⟨?_, h2⟩
    rw [h1]
    by_cases h : bt s 0 = c1.toNat
    ·rw [if_pos h]; exact Or.inl rfl
    ·rw [if_neg h, if_pos (hc.resolve_left h)]; exact Or.inr rfl
   clear CI hc hH
   have CR := Lib.hid (fun k w => number_row (s.extract k s.size) 10 (by omega) (by rw [ByteArray.size_extract]; omega) w)
   have hS : signed (byts s) = if 1 < s.size ∧ (bt s 1 = 43 ∨ bt s 1 = 45) then 2 else 1 := by
    unfold signed
    by_cases h1 : 1 < s.size
    ·rw [byts_get s 1 h1]
     by_cases h2 : bt s 1 = 43 ∨ bt s 1 = 45
     ·rw [if_pos (by simpa using h2), if_pos ⟨h1, h2⟩]
     ·rw [if_neg (by simpa using h2), if_neg (fun h => h2 h.2)]
    ·rw [byts_none s 1 (by omega), if_neg (by simp), if_neg (fun h => h1 h.1)]
   by_cases hsg : 1 < s.size ∧ (bt s 1 = 43 ∨ bt s 1 = 45)
   ·rw [if_pos hsg] at hS
    rw [hS] at HV
    obtain ⟨h1, h2⟩ := hsg
    have h1' : (1 : Int) < s.size := by omega
    have h2' : (2 : Int) ≤ s.size := by omega
    have y1 : ∀ h, ((s[1]'h).toNat : Int) = (bt s 1 : Int) := fun h => by rw [bt_at s 1 h]
    have CR2 := Lib.hid (CR.out 2)
    have hle := rowL_le 10 ((byts s).drop 2)
    rw [List.length_drop, byts_length] at hle
    rw [byts_tail] at CR2
    clear CR hS
    generalize rowL 10 ((byts s).drop 2) = k at *
    generalize bt s 0 = c at *
    generalize bt s 1 = d at *
    rcases h2 with rfl | rfl
    all_goals (
     go_enter Tryd.func80, Tryd.ntmps80
     go_wp2_with fail
     refine (CI2.out _).mono ?_
     rintro e w1 ⟨he1, rfl⟩
     rcases he1 with rfl | rfl
     all_goals (
      go_wp2_with fail
      refine (CR2.out _).mono ?_
      rintro e w1 ⟨rfl, hb1⟩
      have HB1 := Lib.hid hb1
      clear hb1
      by_cases hk : 0 < k
      ·have hk' : (0 : Int) < k := by omega
       go_wp2_with fail
       show Q (.returned (.int .i64 (2 + (k : Int)))) _
       rw [show 2 + (k : Int) = ((2 + k : Nat) : Int) by omega]
       exact HQ.out _ _ (by rw [HV.out, if_pos hk]) HB1.out
      ·have hk' : ¬ (0 : Int) < k := by omega
       go_wp2_with fail
       show Q (.returned (.int .i64 0)) _
       exact HQ.out _ 0 (by rw [HV.out, if_neg hk]) HB1.out))
   ·rw [if_neg hsg] at hS
    rw [hS] at HV
    have CR2 := Lib.hid (CR.out 1)
    have h1' : (1 : Int) ≤ s.size := by omega
    have hle := rowL_le 10 ((byts s).drop 1)
    rw [List.length_drop, byts_length] at hle
    rw [byts_tail] at CR2
    clear CR hS
    generalize rowL 10 ((byts s).drop 1) = k at *
    generalize bt s 0 = c at *
    by_cases h1 : 1 < s.size
    ·have h1'' : (1 : Int) < s.size := by omega
     have y1 : ∀ h, ((s[1]'h).toNat : Int) = (bt s 1 : Int) := fun h => by rw [bt_at s 1 h]
     have g1 : ¬ (bt s 1 : Int) = 43 := fun h => hsg ⟨h1, Or.inl (by omega)⟩
     have g2 : ¬ (bt s 1 : Int) = 45 := fun h => hsg ⟨h1, Or.inr (by omega)⟩
     have g1b : ((bt s 1 : Int) == 43) = false := by rw [beq_eq_false_iff_ne]; exact g1
     have g2b : ((bt s 1 : Int) == 45) = false := by rw [beq_eq_false_iff_ne]; exact g2
     clear hsg
     generalize bt s 1 = d at *
     go_enter Tryd.func80, Tryd.ntmps80
     go_wp2_with fail
     refine (CI2.out _).mono ?_
     rintro e w1 ⟨he1, rfl⟩
     rcases he1 with rfl | rfl
     all_goals (
      go_wp2_with fail
      refine (CR2.out _).mono ?_
      rintro e w1 ⟨rfl, hb1⟩
      have HB1 := Lib.hid hb1
      clear hb1
      by_cases hk : 0 < k
      ·have hk' : (0 : Int) < k := by omega
       go_wp2_with fail
       show Q (.returned (.int .i64 (1 + (k : Int)))) _
       rw [show 1 + (k : Int) = ((1 + k : Nat) : Int) by omega]
       exact HQ.out _ _ (by rw [HV.out, if_pos hk]) HB1.out
      ·have hk' : ¬ (0 : Int) < k := by omega
       go_wp2_with fail
       show Q (.returned (.int .i64 0)) _
       exact HQ.out _ 0 (by rw [HV.out, if_neg hk]) HB1.out)
    ·have h1'' : ¬ (1 : Int) < s.size := by omega
     clear hsg
     go_enter Tryd.func80, Tryd.ntmps80
     go_wp2_with fail
     refine (CI2.out _).mono ?_
     rintro e w1 ⟨he1, rfl⟩
     rcases he1 with rfl | rfl
     all_goals (
      go_wp2_with fail
      refine (CR2.out _).mono ?_
      rintro e w1 ⟨rfl, hb1⟩
      have HB1 := Lib.hid hb1
      clear hb1
      by_cases hk : 0 < k
      ·have hk' : (0 : Int) < k := by omega
       go_wp2_with fail
       show Q (.returned (.int .i64 (1 + (k : Int)))) _
       rw [show 1 + (k : Int) = ((1 + k : Nat) : Int) by omega]
       exact HQ.out _ _ (by rw [HV.out, if_pos hk]) HB1.out
      ·have hk' : ¬ (0 : Int) < k := by omega
       go_wp2_with fail
       show Q (.returned (.int .i64 0)) _
       exact HQ.out _ 0 (by rw [HV.out, if_neg hk]) HB1.out)
  ·have HV : RowKit.Hid (powL c1.toNat c2.toNat (byts s) = 0) := Lib.hid (by
    unfold powL
    rw [if_neg (by rw [hH]; simpa using hc)])
   have CI2 : RowKit.Hid (∀ w, Calls Tryd.prog 64 #[.string ⟨#[c1, c2]⟩, .int .u8 (bt s 0 : Int)] w fun e w' => e = .returned (.int .i64 (-1)) ∧ w = w') := Lib.hid fun w => (CI w).mono fun e w' ⟨h1, h2⟩ => by
    refine ⟨?_, h2⟩
    rw [h1, if_neg (fun h => hc (Or.inl h)), if_neg (fun h => hc (Or.inr h))]
   clear CI hc hH
   generalize bt s 0 = c at *
   go_enter Tryd.func80, Tryd.ntmps80
   go_wp2_with fail
   refine (CI2.out _).mono ?_
   rintro e w1 ⟨rfl, rfl⟩
   go_wp2_with fail
   show Q (.returned (.int .i64 0)) _
   exact HQ.out _ 0 HV.out (Below.refl _ _)

theorem isPrefix_one (c : UInt8) (l : List UInt8) : Lib.hasPrefix l [c] = true ↔ l.head? = some c := by
 unfold Lib.hasPrefix
 cases l with
 | nil => simp [List.isPrefixOf]
 | cons d t => simp [List.isPrefixOf]; exact eq_comm
def bareS (s : ByteArray) : ByteArray := ⟨(Lib.trimPrefix s.data.toList [95]).toArray⟩
theorem head_95 (s : ByteArray) : s.data.toList.head? = some 95 ↔ (byts s).head? = some 95 := by
 unfold byts
 rw [List.head?_map]
 cases h : s.data.toList.head? with
 | none => simp
 | some c =>
  simp only [Option.map_some, Option.some.injEq]
  constructor
  ·rintro rfl; rfl
  ·intro h; exact UInt8.toNat_inj.1 (by rw [h]; rfl)
theorem byts_bare (s : ByteArray) : byts (bareS s) = bare (byts s) := by
 unfold bareS bare Lib.trimPrefix
 by_cases h : s.data.toList.head? = some 95
 ·rw [if_pos ((isPrefix_one 95 _).2 h), if_pos ((head_95 s).1 h)]
  unfold byts
  try simp
 ·rw [if_neg (fun hh => h ((isPrefix_one 95 _).1 hh)), if_neg (fun hh => h ((head_95 s).2 hh))]
theorem bareS_size (s : ByteArray) : (bareS s).size ≤ s.size := by
 rw [← byts_length, ← byts_length, byts_bare]
 unfold bare
 split
 ·simp
 ·exact Nat.le_refl _
theorem rowOK_size (b : Nat) (t : ByteArray) : rowOK b (byts t) = (decide (0 < t.size) && decide (rowL b (byts t) = t.size)) := by
 rw [Bool.eq_iff_iff, rowOK_len, byts_length]
 simp only [Bool.and_eq_true, decide_eq_true_eq]
 constructor
 ·rintro ⟨h1, h2⟩
  refine ⟨?_, h2⟩
  rw [← byts_length]; exact List.length_pos_iff.2 h1
 ·rintro ⟨h1, h2⟩
  refine ⟨?_, h2⟩
  rw [← byts_length] at h1; exact List.length_pos_iff.1 h1
set_option maxRecDepth 100000 in
set_option maxHeartbeats 4000000 in
theorem number_whole (s : ByteArray) (b : Nat) (hb : b ≤ 16) (hs : s.size ≤ 2147483647) (w : World) :
  Calls Tryd.prog 67 #[.string s, .int .i64 (b : Int)] w fun e w' => e = .returned (.int .u8 (wholeL b (byts s) : Nat)) ∧ Below w.heap.size w w' := by
 have HQ : RowKit.Hid (∀ w' n, wholeL b (byts s) = n → Below w.heap.size w w' → (fun (e : Ending) w' => e = .returned (.int .u8 (wholeL b (byts s) : Nat)) ∧ Below w.heap.size w w') (.returned (.int .u8 (n : Nat))) w') := Lib.hid fun w' n h h2 => ⟨by rw [h], h2⟩
 generalize (fun (e : Ending) w' => e = .returned (.int .u8 (wholeL b (byts s) : Nat)) ∧ Below w.heap.size w w') = Q at *
 have CT : RowKit.Hid (∀ w, Calls Tryd.prog 78 #[.string s, .string ⟨#[95]⟩] w fun e w' => e = .returned (.string (bareS s)) ∧ w' = w) := Lib.hid fun w => Tryd.strings_TrimPrefix s ⟨#[95]⟩ w
 have HV : RowKit.Hid (wholeL b (byts s) = if (decide (0 < (bareS s).size) && decide (rowL b (byts (bareS s)) = (bareS s).size)) = true then 3 else 0) := Lib.hid (by
  unfold wholeL
  rw [← byts_bare, rowOK_size])
 have hsz := bareS_size s
 generalize bareS s = t at *
 have CR := Lib.hid (number_row t b hb (by omega))
 by_cases h0 : t.size = 0
 ·have he := empty_of t h0
  have hb := empty_beq t h0
  go_enter Tryd.func67, Tryd.ntmps67
  go_wp2_with fail
  refine (CT.out _).mono ?_
  rintro e w1 ⟨rfl, rfl⟩
  go_wp2_with fail
  show Q (.returned (.int .u8 0)) _
  exact HQ.out _ 0 (by rw [HV.out]; simp [h0]) (Below.refl _ _)
 ·have hpos : 0 < t.size := by omega
  have he := full_of t hpos
  have hb := full_beq t hpos
  have hle := rowL_le b (byts t)
  generalize rowL b (byts t) = k at *
  by_cases hk : k = t.size
  ·have hkb : ((k : Int) == (t.size : Int)) = true := by rw [hk]; simp
   go_enter Tryd.func67, Tryd.ntmps67
   go_wp2_with fail
   refine (CT.out _).mono ?_
   rintro e w1 ⟨rfl, rfl⟩
   go_wp2_with fail
   refine (CR.out _).mono ?_
   rintro e w1 ⟨rfl, hb1⟩
   have HB1 := Lib.hid hb1
   have HV2 : RowKit.Hid (wholeL b (byts s) = 3) := Lib.hid (by rw [HV.out]; simp [hk, hpos])
   clear hb1 hk HV
   go_wp2_with fail
   show Q (.returned (.int .u8 3)) _
   exact HQ.out _ 3 HV2.out HB1.out
  ·have hkb : ((k : Int) == (t.size : Int)) = false := by rw [beq_eq_false_iff_ne]; omega
   go_enter Tryd.func67, Tryd.ntmps67
   go_wp2_with fail
   refine (CT.out _).mono ?_
   rintro e w1 ⟨rfl, rfl⟩
   go_wp2_with fail
   refine (CR.out _).mono ?_
   rintro e w1 ⟨rfl, hb1⟩
   have HB1 := Lib.hid hb1
   have HV2 : RowKit.Hid (wholeL b (byts s) = 0) := Lib.hid (by rw [HV.out]; simp [hk])
   have hk' : ¬ (k : Int) = t.size := by omega
   clear hb1 hk HV
   go_wp2_with fail
   show Q (.returned (.int .u8 0)) _
   exact HQ.out _ 0 HV2.out HB1.out
end Go.Proofs.YtmklemelgdilkaaDoor
