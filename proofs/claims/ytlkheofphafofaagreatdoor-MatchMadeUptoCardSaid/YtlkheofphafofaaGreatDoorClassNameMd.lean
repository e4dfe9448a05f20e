/- The program's Name of layer 2, walked. -/
import Derived.Test.YtlkheofphafofaaGreatDoorClassMd
import Derived.Test.YtlkheofphafofaaGreatDoorShelfQMd
namespace Go.Proofs.YtlkheofphafofaaGreatDoor
open Go.RowKit

def nats (l : List Nat) : List Int := l.map fun (n : Nat) => (n : Int)
theorem isEmpty_size (s : ByteArray) : s.toList.isEmpty = decide (s.size = 0) := by
 rw [ByteArray.toList_eq, Bool.eq_iff_iff, List.isEmpty_iff_length_eq_zero, ← size_data]; simp
set_option maxRecDepth 100000 in
set_option maxHeartbeats 4000000 in
theorem class_Name (s : ByteArray) (w : World) (hT : Tabs w) :
  Calls Tryz.prog 43 #[.string s] w fun e w' => e = .returned (.bool (name s)) ∧ Below w.heap.size w w' := by
 have CW := Lib.hid (fun w => class_Word s w)
 have CB := Lib.hid (fun w hT => runes_Bad s w hT)
 have HN := Lib.hid (show name s = (!s.toList.isEmpty && !word s && decide (bad s < 0) && chk true (nats (chars s))) by unfold name nats; rfl)
 cases he : s.toList.isEmpty
 ·have he2 : (s.toList == []) = false := by
   rw [beq_eq_false_iff_ne]; intro e; rw [e] at he; cases he
  cases hw : word s
  ·rw [hw] at CW
   by_cases hb : bad s < 0
   ·have hb2 : decide (0 ≤ bad s) = false := by simpa using hb
    have HB := Lib.hid ((bad_neg s).1 hb)
    have HN2 : Hid (name s = chk true (nats (scan s 0).1)) := by
     have := HN.out
     rw [he, hw, decide_eq_true hb] at this
     rw [this]; unfold chars; rfl
    clear HN hw hb
    go_enter Tryz.func43, Tryz.ntmps43
    go_wp2_with fail
    refine (CW.out _).mono ?_; rintro e w1 ⟨rfl, rfl⟩
    go_wp2_with fail
    refine (CB.out _ hT).mono ?_; rintro e w1 ⟨rfl, hb1⟩
    go_wp2_with fail
    have hz1 := hb1.size
    go_loopw [] (fun wr => ∃ pos, wr.heap[w1.heap.size]? = some (.stringIter s pos) ∧ pos ≤ s.size ∧ (scan s pos).2 = none ∧ name s = chk (pos == 0) (nats (scan s pos).1) ∧ Below w.heap.size w wr) (fun wr => iterLeft w1.heap.size wr)
    case atStart => exact ⟨0, World.iter_heap _ _ _, Nat.zero_le _, HB.out, HN2.out, hb1.alloc hb1.size _⟩
    case round =>
     obtain ⟨pos, hk, hpos, hnn, hnm, hb⟩ := hrel
     have HK := Lib.hid hk
     have HNM := Lib.hid hnm
     have HNN := Lib.hid hnn
     have hz := keeps_lt hk
     clear hnm
     by_cases hp : pos < s.size
     ·have hn := fun ty => Lib.run_next_any_at (P := Tryz.prog) wr w1.heap.size s pos ty hk hp
      have hb2' : Below w.heap.size w (wr.iterAt w1.heap.size s (pos + (Utf8.decode s pos).2)) := Lib.below_iterAt hb (by omega) _ _
      have hk2 := Lib.iterAt_heap wr w1.heap.size s pos (pos + (Utf8.decode s pos).2) hk
      generalize hW : wr.iterAt w1.heap.size s (pos + (Utf8.decode s pos).2) = W at *
      rcases rd_cases s pos hp with ⟨h1, h2⟩ | ⟨h1, h2, h3, h4, h5, h6⟩
      ·exact absurd h1 (bad_good hp hnn)
      ·have HR := Lib.hid (scan_step hp (by omega))
       have hrl := rd_le s pos
       rw [h6] at hn hk2
       generalize rd s pos = d at *
       obtain ⟨d1, d2⟩ := d
       simp only [] at *
       have hp2 := Lib.hid h3
       have CL := Lib.hid (fun w => class_Letter d1 w)
       have CD := Lib.hid (fun w => class_Digit d1 (by omega) w)
       have hnx : name s = ((letter d1 || (!(pos == 0) && digit d1)) && chk false (nats (scan s (pos + d2)).1)) := by
        rw [HNM.out, HR.out]; rfl
       have HNX := Lib.hid hnx
       have hq : ((pos : Int) == 0) = (pos == 0) := by rw [Bool.eq_iff_iff]; simp
       have hp0 : (pos + d2 == 0) = false := by simp; omega
       have HP0 := Lib.hid hp0
       clear hW h4 h5 h6 h3 hk hnn hnx hp0
       cases hl : letter d1
       ·rw [hl] at CL HNX
        cases h0 : (pos == 0)
        ·rw [h0] at hq HNX
         cases hd : digit d1
         ·rw [hd] at CD HNX
          clear hl hd h0
          go_wp2_with fail
          refine (CL.out _).mono ?_; rintro e w3 ⟨rfl, hb3⟩
          go_wp2_with fail
          refine (CD.out _).mono ?_; rintro e w4 ⟨rfl, rfl⟩
          go_wp2_with fail
          go_ret
          exact ⟨ret_bool (by rw [HNX.out]; rfl), bthen hb2' hb3⟩
         ·rw [hd] at CD HNX
          clear hl hd h0
          go_wp2_with fail
          refine (CL.out _).mono ?_; rintro e w3 ⟨rfl, hb3⟩
          have hk3 := keeps hb3 hk2
          go_wp2_with fail
          refine (CD.out _).mono ?_; rintro e w4 ⟨rfl, rfl⟩
          go_wp2_with fail
          go_roundw
          case rel => exact ⟨pos + d2, hk3, hp2.out, by rw [← HNN.out, HR.out], by rw [HNX.out, HP0.out]; rfl, bthen hb2' hb3⟩
          case measure => rw [iterLeft_of hk3, iterLeft_of HK.out]; have := hp2.out; omega
        ·rw [h0] at hq HNX
         clear hl h0
         go_wp2_with fail
         refine (CL.out _).mono ?_; rintro e w3 ⟨rfl, hb3⟩
         go_wp2_with fail
         go_ret
         exact ⟨ret_bool (by rw [HNX.out]; rfl), bthen hb2' hb3⟩
       ·rw [hl] at CL HNX
        clear hl hq
        go_wp2_with fail
        refine (CL.out _).mono ?_; rintro e w3 ⟨rfl, hb3⟩
        have hk3 := keeps hb3 hk2
        go_wp2_with fail
        go_roundw
        case rel => exact ⟨pos + d2, hk3, hp2.out, by rw [← HNN.out, HR.out], by rw [HNX.out, HP0.out]; simp, bthen hb2' hb3⟩
        case measure => rw [iterLeft_of hk3, iterLeft_of HK.out]; have := hp2.out; omega
     ·have hn := fun ty => Lib.run_next_end_at (P := Tryz.prog) wr w1.heap.size s pos ty hk hp
      have HE := Lib.hid (show name s = true by rw [HNM.out, scan_end (by omega)]; rfl)
      clear hk hnn
      go_wp2_with fail
      go_ret
      exact ⟨ret_bool HE.out.symm, hb⟩
   ·have hb2 : decide (0 ≤ bad s) = true := by simpa using hb
    have HN2 : Hid (name s = false) := by
     have := HN.out
     rw [he, hw, decide_eq_false hb] at this
     rw [this]; rfl
    clear HN hw hb
    go_enter Tryz.func43, Tryz.ntmps43
    go_wp2_with fail
    refine (CW.out _).mono ?_; rintro e w1 ⟨rfl, rfl⟩
    go_wp2_with fail
    refine (CB.out _ hT).mono ?_; rintro e w1 ⟨rfl, hb1⟩
    go_wp2_with fail
    go_ret
    exact ⟨ret_bool HN2.out.symm, hb1⟩
  ·rw [hw] at CW
   have HN2 : Hid (name s = false) := by
    have := HN.out
    rw [he, hw] at this
    rw [this]; rfl
   clear HN hw
   go_enter Tryz.func43, Tryz.ntmps43
   go_wp2_with fail
   refine (CW.out _).mono ?_; rintro e w1 ⟨rfl, rfl⟩
   go_wp2_with fail
   go_ret
   exact ⟨ret_bool HN2.out.symm, Below.refl _ _⟩
 ·have he2 : (s.toList == []) = true := by
   rw [List.isEmpty_iff.1 he]; rfl
  have HN2 : Hid (name s = false) := by
   have := HN.out
   rw [he] at this
   rw [this]; rfl
  clear HN
  go_enter Tryz.func43, Tryz.ntmps43
  go_wp2_with fail
  go_ret
  exact ⟨ret_bool HN2.out.symm, Below.refl _ _⟩
end Go.Proofs.YtlkheofphafofaaGreatDoor
namespace Go.Proofs.YtlkheofphafofaaGreatDoor
open Go.RowKit

theorem chk_false (l : List Int) : chk false l = l.all fun x => letter x || digit x := by
 induction l with
 | nil => rfl
 | cons x l ih => simp [chk, ih]
def okAll (l : List Int) : Bool := l.all fun x => letter x || digit x
theorem okAll_no (l : List Int) (i : Nat) (hi : i < l.length) (h1 : letter l[i] = false) (h2 : digit l[i] = false) : okAll l = false := by
 unfold okAll; rw [List.all_eq_false]; exact ⟨l[i], List.getElem_mem hi, by simp [h1, h2]⟩
theorem okAll_yes (l : List Int) (h : ∀ i (hi : i < l.length), (letter l[i] || digit l[i]) = true) : okAll l = true := by
 unfold okAll; rw [List.all_eq_true]
 intro x hx
 obtain ⟨i, hi, rfl⟩ := List.getElem_of_mem hx
 exact h i hi
theorem name_def (s : ByteArray) : name s = (!s.toList.isEmpty && !word s && decide (bad s < 0) && chk true (nats (chars s))) := by unfold name nats; rfl
theorem name_bad {s : ByteArray} (h : ¬ bad s < 0) : name s = false := by rw [name_def, decide_eq_false h]; simp
theorem name_word {s : ByteArray} (h : word s = true) : name s = false := by rw [name_def, h]; simp
theorem chars_empty {s : ByteArray} (h : bad s < 0) : chars s = [] ↔ s.toList.isEmpty = true := by
 rw [isEmpty_size]
 have hn := (bad_neg s).1 h
 unfold chars
 constructor
 ·intro e
  by_cases hz : 0 < s.size
  ·have h0 : (rd s 0).2 ≠ 0 := by
    rcases rd_cases s 0 hz with ⟨h1, _⟩ | ⟨h1, _⟩
    ·exact absurd h1 (bad_good hz hn)
    ·exact Nat.ne_of_gt h1
   rw [scan_step hz h0] at e
   cases e
  ·exact decide_eq_true (by omega)
 ·intro e
  have : s.size = 0 := by simpa using e
  rw [scan_end (by omega)]
theorem name_nil {s : ByteArray} (hb : bad s < 0) (h : charsOk s = []) : name s = false := by
 rw [charsOk_good hb] at h
 have : chars s = [] := by unfold ints at h; simpa using h
 rw [name_def, (chars_empty hb).1 this]; simp
theorem name_cons {s : ByteArray} (hb : bad s < 0) (hw : word s = false) (hn : 0 < (charsOk s).length) : name s = (letter ((charsOk s)[0]'hn) && okAll (charsOk s)) := by
 have e := charsOk_good hb
 have hne : s.toList.isEmpty = false := by
  cases h : s.toList.isEmpty
  ·rfl
  ·have := (chars_empty hb).2 h
   rw [e, this] at hn; simp [ints] at hn
 have e2 : nats (chars s) = charsOk s := by rw [e]; rfl
 rw [name_def, hne, hw, decide_eq_true hb, e2]
 generalize charsOk s = l at *
 cases l with
 | nil => simp at hn
 | cons x l =>
  simp only [chk, chk_false, okAll, List.all_cons, List.getElem_cons_zero]
  cases letter x <;> simp
set_option maxRecDepth 100000 in
set_option maxHeartbeats 4000000 in
theorem ref_Name (s : ByteArray) (w : World) (hs : s.size ≤ 1099511627775) :
  Calls Tryz.prog 47 #[.string s] w fun e w' => e = .returned (.bool (name s)) ∧ Below w.heap.size w w' := by
 have CA := Lib.hid (fun w => ref_Alls s w hs)
 have CW := Lib.hid (fun w => ref_Word s w)
 by_cases hb : bad s < 0
 ·have hcl := charsOk_length s
  have H0 := Lib.hid (@name_nil s hb)
  have H1 := Lib.hid (@name_word s)
  have H2 := Lib.hid (@name_cons s hb)
  rw [decide_eq_true hb] at CA
  generalize charsOk s = l at *
  clear hb
  go_enter Tryz.func47, Tryz.ntmps47
  go_wp2_with fail
  refine (CA.out _).mono ?_; rintro e w1 ⟨v, rfl, hb1, hown⟩
  have hr := RowInts.of_owns hown
  obtain ⟨a, cap, rfl, hc, hcell⟩ := hr.open'
  have HC := Lib.hid hcell
  clear hcell hown hr
  by_cases hl : l = []
  ·subst hl
   go_wp2_with fail
   go_ret
   exact ⟨ret_bool (H0.out (by simp)).symm, hb1⟩
  ·have hpos : 0 < l.length := List.length_pos_iff.2 hl
   have hp1 : ((l.length : Int) == 0) = false := by simp; omega
   have HL := Lib.hid hl
   clear hl
   cases hw : word s
   ·rw [hw] at CW
    have HN := Lib.hid (H2.out hw hpos)
    clear hw H0 H1 H2
    go_wp2_with fail
    refine (CW.out _).mono ?_; rintro e w2 ⟨rfl, hb2⟩
    have hb12 := bthen hb1 hb2
    obtain ⟨b, off, rfl, hbl, hcl'⟩ := HC.out hpos
    have h0 := (hb2.cell (p := ⟨b, off + 0, none⟩) hbl).trans (hcl' 0 hpos)
    rw [Nat.add_zero] at h0
    have HCL := Lib.hid hcl'
    have C0 := Lib.hid (fun w => ref_Letter l[0] w)
    have hpi : (0 : Int) < l.length := by omega
    clear hcl'
    generalize h00 : l[0] = x0 at *
    have H00 := Lib.hid h00
    clear h00
    cases hl0 : letter x0
    ·rw [hl0] at C0 HN
     clear hl0
     go_wp2_with fail
     refine (C0.out _).mono ?_; rintro e w3 ⟨rfl, hb3⟩
     go_wp2_with fail
     go_ret
     exact ⟨ret_bool (by rw [HN.out]; rfl), bthen hb12 hb3⟩
    ·rw [hl0] at C0 HN
     clear hl0
     go_wp2_with fail
     refine (C0.out _).mono ?_; rintro e w3 ⟨rfl, hb3⟩
     have hb13 := bthen hb12 hb3
     have hb23 := bthen hb2 hb3
     clear h0
     go_wp2_with fail
     go_loopw [5] (fun i wr => ∃ k : Nat, i = .int .i64 k ∧ k ≤ l.length ∧ (∀ j (hj : j < l.length), j < k → (letter l[j] || digit l[j]) = true) ∧ Below w1.heap.size w1 wr) (fun i _ => l.length - (intOf i).toNat)
     case atStart => exact ⟨0, rfl, Nat.zero_le _, fun j _ h => by omega, hb23⟩
     case round =>
      obtain ⟨k, rfl, hk, hyes, hbr⟩ := hrel
      have HY := Lib.hid hyes
      clear hyes
      have hb1r := bthen hb1 hbr
      by_cases hlt : k < l.length
      ·have h1 := (hbr.cell (p := ⟨b, off + k, none⟩) hbl).trans (HCL.out k hlt)
       have CL := Lib.hid (fun w => ref_Letter l[k] w)
       have CD := Lib.hid (fun w => ref_Digit l[k] w)
       have hnx : (letter l[k] || digit l[k]) = true → ∀ j (hj : j < l.length), j < k + 1 → (letter l[j] || digit l[j]) = true := fun hx j hj hjk => by
        by_cases e : j = k
        ·subst e; exact hx
        ·exact HY.out j hj (by omega)
       have hno := okAll_no l k hlt
       have HNX := Lib.hid hnx; have HNO := Lib.hid hno
       have hkl : (k : Int) < l.length := by omega
       clear hnx hno
       generalize l[k] = x at *
       cases hlx : letter x
       ·rw [hlx] at CL HNX HNO
        cases hdx : digit x
        ·rw [hdx] at CD HNX HNO
         clear hlx hdx
         go_wp2_with fail
         refine (CL.out _).mono ?_; rintro e w4 ⟨rfl, hb4⟩
         have h2 := (hb4.cell (p := ⟨b, off + k, none⟩) (Nat.lt_of_lt_of_le hbl hbr.size)).trans h1
         clear h1
         go_wp2_with fail
         refine (CD.out _).mono ?_; rintro e w5 ⟨rfl, hb5⟩
         go_wp2_with fail
         go_ret
         exact ⟨ret_bool (by rw [HN.out, HNO.out (by simp) (by simp)]; rfl), bthen (bthen hb1r hb4) hb5⟩
        ·rw [hdx] at CD HNX
         clear hlx hdx
         go_wp2_with fail
         refine (CL.out _).mono ?_; rintro e w4 ⟨rfl, hb4⟩
         have h2 := (hb4.cell (p := ⟨b, off + k, none⟩) (Nat.lt_of_lt_of_le hbl hbr.size)).trans h1
         clear h1
         go_wp2_with fail
         refine (CD.out _).mono ?_; rintro e w5 ⟨rfl, hb5⟩
         go_wp2_with fail
         go_roundw
         case rel => exact ⟨k + 1, by go_num, by omega, HNX.out (by simp), bthen (bthen hbr hb4) hb5⟩
         case measure => simp [intOf]; omega
       ·rw [hlx] at CL HNX
        clear hlx
        go_wp2_with fail
        refine (CL.out _).mono ?_; rintro e w4 ⟨rfl, hb4⟩
        go_wp2_with fail
        go_roundw
        case rel => exact ⟨k + 1, by go_num, by omega, HNX.out (by simp), bthen hbr hb4⟩
        case measure => simp [intOf]; omega
      ·have hkl : (l.length : Int) ≤ k := by omega
       have HX := Lib.hid (okAll_yes l fun i hi => HY.out i hi (by omega))
       go_wp2_with fail
       go_ret
       exact ⟨ret_bool (by rw [HN.out, HX.out]; rfl), hb1r⟩
   ·rw [hw] at CW
    have HN := Lib.hid (H1.out hw)
    clear hw H0 H1 H2
    go_wp2_with fail
    refine (CW.out _).mono ?_; rintro e w2 ⟨rfl, hb2⟩
    go_wp2_with fail
    go_ret
    exact ⟨ret_bool HN.out.symm, bthen hb1 hb2⟩
 ·have HN := Lib.hid (name_bad hb)
  rw [decide_eq_false hb] at CA
  clear hb
  go_enter Tryz.func47, Tryz.ntmps47
  go_wp2_with fail
  refine (CA.out _).mono ?_; rintro e w1 ⟨v, rfl, hb1, hown⟩
  go_wp2_with fail
  go_ret
  exact ⟨ret_bool HN.out.symm, hb1⟩
end Go.Proofs.YtlkheofphafofaaGreatDoor
