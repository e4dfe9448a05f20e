/- Layer 5 in plain Lean: numbers as texts, the program's answer and the document's; no program in sight. -/
import Derived.Test.YtmklemelgdilkaaDoorPureMh
import Derived.Test.YtmklemelgdilkaaDoorQuotedPMh
import Derived.Lib.SlTrimSet
import Derived.Test.YtmklemelgdilkaaDoorQuotedMh
import Derived.OneCell
namespace Go.Proofs.YtmklemelgdilkaaDoor
set_option linter.all false

def dval (c : Nat) : Nat := if 48 ≤ c ∧ c ≤ 57 then c - 48 else if 97 ≤ c ∧ c ≤ 102 then c - 87 else if 65 ≤ c ∧ c ≤ 70 then c - 55 else 99
def rowL (b : Nat) : List Nat → Nat
 | [] => 0
 | c :: t =>
  if dval c < b then
   match t with
   | u :: d :: r => if u = 95 ∧ dval d < b then 2 + rowL b (d :: r) else 1 + rowL b (u :: d :: r)
   | [x] => 1 + rowL b [x]
   | [] => 1
  else 0
termination_by l => l.length
theorem rowL_nil (b : Nat) : rowL b [] = 0 := by rw [rowL]
theorem rowL_non {b c : Nat} {t : List Nat} (h : ¬ dval c < b) : rowL b (c :: t) = 0 := by rw [rowL.eq_def]; simp only [if_neg h]
theorem rowL_under {b c d : Nat} {r : List Nat} (h : dval c < b) (hd : dval d < b) : rowL b (c :: 95 :: d :: r) = 2 + rowL b (d :: r) := by
 rw [rowL.eq_def]; simp only [if_pos h]; rw [if_pos ⟨trivial, hd⟩]
theorem rowL_next {b c : Nat} {t : List Nat} (h : dval c < b) (hn : ¬ (t.head? = some 95 ∧ ∃ d, t[1]? = some d ∧ dval d < b)) : rowL b (c :: t) = 1 + rowL b t := by
 rw [rowL.eq_def]; simp only [if_pos h]
 match t, hn with
 | [], _ => rw [rowL_nil]
 | [x], _ => rfl
 | u :: d :: r, hn =>
  simp only []
  rw [if_neg]
  rintro ⟨rfl, hd⟩
  exact hn ⟨rfl, d, rfl, hd⟩
theorem rowL_le (b : Nat) : ∀ l : List Nat, rowL b l ≤ l.length
 | [] => by rw [rowL_nil]; exact Nat.le_refl _
 | c :: t => by
  by_cases h : dval c < b
  ·by_cases hn : t.head? = some 95 ∧ ∃ d, t[1]? = some d ∧ dval d < b
   ·match t, hn with
    | [], hn => simp at hn
    | [x], hn => simp at hn
    | u :: d :: r, ⟨h1, d', h2, h3⟩ =>
     simp at h1 h2
     subst h1; subst h2
     rw [rowL_under h h3]
     have := rowL_le b (d :: r)
     simp only [List.length_cons] at this ⊢
     omega
   ·rw [rowL_next h hn]
    have := rowL_le b t
    simp only [List.length_cons]; omega
  ·rw [rowL_non h]; omega
termination_by l => l.length
inductive RowP (b : Nat) : List Nat → Prop
 | one {c : Nat} : dval c < b → RowP b [c]
 | next {c : Nat} {t : List Nat} : dval c < b → RowP b t → RowP b (c :: t)
 | under {c : Nat} {t : List Nat} : dval c < b → RowP b t → RowP b (c :: 95 :: t)
theorem RowP.head {b : Nat} {l : List Nat} (h : RowP b l) : ∃ c t, l = c :: t ∧ dval c < b := by
 cases h with
 | one h => exact ⟨_, _, rfl, h⟩
 | next h _ => exact ⟨_, _, rfl, h⟩
 | under h _ => exact ⟨_, _, rfl, h⟩
def rowOK (b : Nat) (l : List Nat) : Bool := !l.isEmpty && rowL b l == l.length
end Go.Proofs.YtmklemelgdilkaaDoor
namespace Go.Proofs.YtmklemelgdilkaaDoor
set_option linter.all false

def bare (l : List Nat) : List Nat := if l.head? = some 95 then l.drop 1 else l
def wholeL (b : Nat) (l : List Nat) : Nat := if rowOK b (bare l) then 3 else 0
def signed (l : List Nat) : Nat := if l[1]? = some 43 ∨ l[1]? = some 45 then 2 else 1
def powL (c1 c2 : Nat) (l : List Nat) : Nat :=
 if l.head? = some c1 ∨ l.head? = some c2 then
  if 0 < rowL 10 (l.drop (signed l)) then signed l + rowL 10 (l.drop (signed l)) else 0
 else 0
def tailK (b : Nat) (m : List Nat) : Nat := if m[rowL b m]? = some 46 then rowL b (m.drop (rowL b m + 1)) + 1 else 0
def noDigit (b : Nat) (m : List Nat) : Bool := decide (tailK b m ≠ 0 ∧ rowL b m + (tailK b m - 1) = 0)
def sixteenL (l : List Nat) : Nat :=
 if rowOK 16 (bare l) then 3
 else if rowL 16 (bare l) = 0 ∧ l.head? = some 95 then 0
 else if noDigit 16 (bare l) then 0
 else if tailK 16 (bare l) = 0 ∧ rowL 16 (bare l) = 0 then 0
 else if 0 < powL 112 80 ((bare l).drop (rowL 16 (bare l) + tailK 16 (bare l))) ∧ rowL 16 (bare l) + tailK 16 (bare l) + powL 112 80 ((bare l).drop (rowL 16 (bare l) + tailK 16 (bare l))) = (bare l).length then 4 else 0
def tenL (l : List Nat) : Nat :=
 if rowL 10 l = l.length ∧ 0 < rowL 10 l then (if l.head? ≠ some 48 ∨ rowL 10 l = 1 then 3 else wholeL 8 (l.drop 1))
 else if noDigit 10 l then 0
 else if 0 < rowL 10 l + tailK 10 l ∧ 0 < tailK 10 l + powL 101 69 (l.drop (rowL 10 l + tailK 10 l)) ∧ rowL 10 l + tailK 10 l + powL 101 69 (l.drop (rowL 10 l + tailK 10 l)) = l.length then 4 else 0
def realL (l : List Nat) : Nat :=
 if 1 < l.length ∧ l.head? = some 48 then
  if l[1]? = some 98 ∨ l[1]? = some 66 then wholeL 2 (l.drop 2)
  else if l[1]? = some 111 ∨ l[1]? = some 79 then wholeL 8 (l.drop 2)
  else if l[1]? = some 120 ∨ l[1]? = some 88 then sixteenL (l.drop 2)
  else tenL l
 else tenL l
def kindL (l : List Nat) : Nat :=
 if realL l ≠ 0 then realL l
 else if l.getLast? ≠ some 105 then 0
 else if realL l.dropLast ≠ 0 ∨ (l.dropLast ≠ [] ∧ rowL 10 l.dropLast = l.dropLast.length) then 5 else 0

theorem rowOK_len {b : Nat} {l : List Nat} : rowOK b l = true ↔ l ≠ [] ∧ rowL b l = l.length := by unfold rowOK; simp
theorem tailK_le (b : Nat) (m : List Nat) : rowL b m + tailK b m ≤ m.length := by
 have h1 := rowL_le b m
 unfold tailK
 split
 ·rename_i h
  have h2 := rowL_le b (m.drop (rowL b m + 1))
  have h3 := (List.getElem?_eq_some_iff.1 h).1
  rw [List.length_drop] at h2
  omega
 ·omega
end Go.Proofs.YtmklemelgdilkaaDoor
namespace Go.Proofs.YtmklemelgdilkaaDoor
set_option linter.all false

theorem powL_le (c1 c2 : Nat) (l : List Nat) : powL c1 c2 l ≤ l.length := by
 unfold powL
 split
 ·rename_i h
  split
  ·have h2 := rowL_le 10 (l.drop (signed l))
   rw [List.length_drop] at h2
   have h3 : signed l ≤ l.length := by
    unfold signed
    split
    ·rename_i h4
     rcases h4 with h4 | h4 <;> (have := (List.getElem?_eq_some_iff.1 h4).1; omega)
    ·cases l with
     | nil => simp at h
     | cons c t => simp
   omega
  ·omega
 ·omega
theorem RowP.wide {b : Nat} (hb : b ≤ 10) {l : List Nat} (h : RowP b l) : RowP 10 l := by
 induction h with
 | one h => exact RowP.one (by omega)
 | next h _ ih => exact RowP.next (by omega) ih
 | under h _ ih => exact RowP.under (by omega) ih
end Go.Proofs.YtmklemelgdilkaaDoor
namespace Go.Proofs.YtmklemelgdilkaaDoor
set_option linter.all false

def byts (s : ByteArray) : List Nat := s.data.toList.map fun b => b.toNat
theorem byts_length (s : ByteArray) : (byts s).length = s.size := by unfold byts; rw [List.length_map, ← size_data]
theorem byts_get (s : ByteArray) (i : Nat) (h : i < s.size) : (byts s)[i]? = some (bt s i) := by
 unfold byts bt
 rw [List.getElem?_map, get!_list, List.getD_eq_getElem?_getD]
 have hl : i < s.data.toList.length := by rw [← size_data]; exact h
 rw [List.getElem?_eq_getElem hl]
 rfl
end Go.Proofs.YtmklemelgdilkaaDoor
namespace Go.Proofs.YtmklemelgdilkaaDoor
set_option linter.all false

theorem extract_tail (s : ByteArray) (i : Nat) : (s.extract i s.size).data.toList = s.data.toList.drop i := by
 rw [extract_data, List.take_of_length_le]
 rw [List.length_drop, ← size_data]; omega
end Go.Proofs.YtmklemelgdilkaaDoor
namespace Go.Proofs.YtmklemelgdilkaaDoor
set_option linter.all false

end Go.Proofs.YtmklemelgdilkaaDoor
namespace Go.Proofs.YtmklemelgdilkaaDoor
set_option linter.all false
open Go.RowKit

set_option maxRecDepth 100000 in
theorem number_value (c : Nat) (hc : c < 256) (w : World) :
  Calls Tryd.prog 72 #[.int .u8 (c : Int)] w fun e w' => e = .returned (.int .i64 (dval c : Nat)) ∧ w = w' := by
 have hc' : (c : Int) < 256 := by omega
 have hc0 : (0 : Int) ≤ c := by omega
 go_enter Tryd.func72, Tryd.ntmps72
 go_wp2_with fail
 all_goals go_ret
 all_goals (refine ⟨ret_int ?_, rfl⟩)
 all_goals (unfold dval; repeat (first | rw [if_pos (by omega)] | rw [if_neg (by omega)] | omega))
structure RW (w : World) (B : Nat) (s : ByteArray) (b : Nat) (n : Int) : Prop where
 h0 : w.heap[B]? = some (.cells #[.string s] 9 (0, 0))
 h1 : w.heap[B + 1]? = some (.cells #[.int .i64 b] 3 (0, 0))
 h2 : w.heap[B + 1 + 1]? = some (.cells #[.int .i64 n] 3 (0, 0))
theorem RW.drewN {w : World} {B : Nat} {s : ByteArray} {b : Nat} {n : Int} (h : RW w B s b n) (k : Nat) : RW (w.drewN k) B s b n := ⟨h.h0, h.h1, h.h2⟩
theorem RW.c0 {w : World} {B : Nat} {s : ByteArray} {b : Nat} {n : Int} (h : RW w B s b n) : w.cell? ⟨B, 0, none⟩ = some (.string s) := cell_of_one h.h0
theorem RW.c1 {w : World} {B : Nat} {s : ByteArray} {b : Nat} {n : Int} (h : RW w B s b n) : w.cell? ⟨B + 1, 0, none⟩ = some (.int .i64 b) := cell_of_one h.h1
theorem RW.c2 {w : World} {B : Nat} {s : ByteArray} {b : Nat} {n : Int} (h : RW w B s b n) : w.cell? ⟨B + 1 + 1, 0, none⟩ = some (.int .i64 n) := cell_of_one h.h2
theorem RW.z2 {w : World} {B : Nat} {s : ByteArray} {b : Nat} {n : Int} (h : RW w B s b n) : w.frozen? ⟨B + 1 + 1, 0, none⟩ = false := free_of_one h.h2
theorem RW.set {w : World} {B : Nat} {s : ByteArray} {b : Nat} {n : Int} (h : RW w B s b n) (m : Int) : RW (w.setCell ⟨B + 1 + 1, 0, none⟩ (.int .i64 m)) B s b m :=
 ⟨by rw [heap_setCell_other _ _ _ _ (by show B ≠ B + 1 + 1; omega)]; exact h.h0, by rw [heap_setCell_other _ _ _ _ (by show B + 1 ≠ B + 1 + 1; omega)]; exact h.h1, one_setCell h.h2⟩
def rwN (B : Nat) (w : World) : Nat := match w.cell? ⟨B + 1 + 1, 0, none⟩ with
 | some (.int _ n) => n.toNat
 | _ => 0
theorem RW.n {w : World} {B : Nat} {s : ByteArray} {b : Nat} {n : Int} (h : RW w B s b n) : rwN B w = n.toNat := by unfold rwN; rw [h.c2]
theorem RW.new (w : World) (s : ByteArray) (b : Nat) : RW (((w.alloc (.cells #[.string s] 9)).alloc (.cells #[.int .i64 b] 3)).alloc (.cells #[.int .i64 0] 3)) w.heap.size s b 0 :=
 ⟨by rw [Below.heap_alloc _ _ _ (by simp; omega), Below.heap_alloc _ _ _ (by simp)]; exact heap_alloc_new _ _,
  by rw [Below.heap_alloc _ _ _ (by simp)]; have := heap_alloc_new (w.alloc (.cells #[.string s] 9)) (.cells #[.int .i64 b] 3); simpa using this,
  by have := heap_alloc_new ((w.alloc (.cells #[.string s] 9)).alloc (.cells #[.int .i64 b] 3)) (.cells #[.int .i64 0] 3); simpa using this⟩
def isDig (s : ByteArray) (b n : Nat) : Bool := decide (n < s.size) && decide (dval (bt s n) < b)
set_option maxRecDepth 100000 in
set_option maxHeartbeats 1000000 in
theorem number_digit (s : ByteArray) (b n B : Nat) (hn : n ≤ s.size) (hb : b ≤ 16) (w : World) (hR : RW w B s b n) :
  Calls Tryd.prog 71 #[.pointer (some ⟨B + 1 + 1, 0, none⟩), .pointer (some ⟨B, 0, none⟩), .pointer (some ⟨B + 1, 0, none⟩)] w fun e w' => e = .returned (.bool (isDig s b n)) ∧ ∃ k, w' = w.drewN k := by
 have c0 := hR.c0; have c1 := hR.c1; have c2 := hR.c2
 have CV := Lib.hid (fun w => number_value (bt s n) (bt_lt s n) w)
 clear hR
 by_cases hlt : n < s.size
 ·have hlt' : (n : Int) < s.size := by omega
  have hn0 : (0 : Int) ≤ n := by omega
  have yy : ∀ h, ((s[n]'h).toNat : Int) = (bt s n : Int) := fun h => by rw [bt_at s n h]
  have hd : isDig s b n = decide (dval (bt s n) < b) := by unfold isDig; simp [hlt]
  have hdv : dval (bt s n) ≤ 99 := by unfold dval; split <;> (try split) <;> (try split) <;> omega
  have HD := Lib.hid hd
  clear hd
  generalize bt s n = c at *
  generalize hx : dval c = x at *
  clear hx
  go_enter Tryd.func71, Tryd.ntmps71
  go_wp2_with fail
  have CV' : ∀ n, Calls Tryd.prog 72 #[.int .u8 (c : Int)] (w.drewN n) fun e w' => e = .returned (.int .i64 (x : Nat)) ∧ ∃ m, w' = w.drewN m := fun n => Calls.quiet_of_same ((CV.out _).mono fun e w' h => ⟨h.1, h.2.symm⟩)
  have CC := Lib.hid CV'
  clear CV'
  go_quiet (exact CC.out _)
  go_wp2_with fail
  go_ret
  exact ⟨ret_bool HD.out.symm, nq, rfl⟩
 ·have hlt' : ¬ (n : Int) < s.size := by omega
  have hd : isDig s b n = false := by unfold isDig; simp [hlt]
  have HD := Lib.hid hd
  clear hd CV
  go_enter Tryd.func71, Tryd.ntmps71
  go_wp2_with fail
  go_quiet (fail)
  go_wp2_with fail
  go_ret
  exact ⟨ret_bool HD.out.symm, nq, rfl⟩
def rowAt (b : Nat) (s : ByteArray) (n : Nat) : Nat := rowL b ((byts s).drop n)
theorem byts_drop (s : ByteArray) (n : Nat) (h : n < s.size) : (byts s).drop n = bt s n :: (byts s).drop (n + 1) := by
 have hl : n < (byts s).length := by rw [byts_length]; exact h
 rw [List.drop_eq_getElem_cons hl]
 congr 1
 have := byts_get s n h
 rw [List.getElem?_eq_getElem hl] at this
 exact Option.some.inj this
theorem byts_end (s : ByteArray) (n : Nat) (h : s.size ≤ n) : (byts s).drop n = [] := List.drop_of_length_le (by rw [byts_length]; exact h)
theorem rowAt_no {b : Nat} {s : ByteArray} {n : Nat} (h : isDig s b n = false) : rowAt b s n = 0 := by
 unfold rowAt
 by_cases hn : n < s.size
 ·rw [byts_drop s n hn]
  unfold isDig at h
  simp [hn] at h
  exact rowL_non (by omega)
 ·rw [byts_end s n (by omega), rowL_nil]
theorem rowAt_two {b : Nat} {s : ByteArray} {n : Nat} (h : isDig s b n = true) (h1 : n + 2 < s.size) (h2 : bt s (n + 1) = 95) (h3 : dval (bt s (n + 2)) < b) : rowAt b s n = 2 + rowAt b s (n + 2) := by
 unfold rowAt
 unfold isDig at h
 simp at h
 rw [byts_drop s n (by omega), byts_drop s (n + 1) (by omega), byts_drop s (n + 1 + 1) (by omega), h2]
 exact rowL_under h.2 h3
theorem rowAt_one {b : Nat} {s : ByteArray} {n : Nat} (h : isDig s b n = true) (h1 : ¬ (n + 2 < s.size ∧ bt s (n + 1) = 95 ∧ dval (bt s (n + 2)) < b)) : rowAt b s n = 1 + rowAt b s (n + 1) := by
 unfold rowAt
 unfold isDig at h
 simp at h
 rw [byts_drop s n (by omega)]
 refine rowL_next h.2 ?_
 rintro ⟨g1, d, g2, g3⟩
 by_cases hn : n + 1 < s.size
 ·rw [byts_drop s (n + 1) hn] at g1 g2
  simp at g1
  by_cases hn2 : n + 2 < s.size
  ·rw [byts_drop s (n + 1 + 1) hn2] at g2
   simp at g2
   subst g2
   exact h1 ⟨hn2, g1, g3⟩
  ·rw [byts_end s (n + 1 + 1) (by omega)] at g2
   simp at g2
 ·rw [byts_end s (n + 1) (by omega)] at g1
  simp at g1
set_option maxRecDepth 100000 in
set_option maxHeartbeats 4000000 in
theorem number_row (s : ByteArray) (b : Nat) (hb : b ≤ 16) (hs : s.size ≤ 2147483647) (w : World) :
  Calls Tryd.prog 61 #[.string s, .int .i64 (b : Int)] w fun e w' => e = .returned (.int .i64 (rowL b (byts s) : Nat)) ∧ Below w.heap.size w w' := by
 have HQ : RowKit.Hid (∀ w' n, rowL b (byts s) = n → Below w.heap.size w w' → (fun (e : Ending) w' => e = .returned (.int .i64 (rowL b (byts s) : Nat)) ∧ Below w.heap.size w w') (.returned (.int .i64 (n : Nat))) w') := Lib.hid fun w' n h h2 => ⟨by rw [h], h2⟩
 generalize (fun (e : Ending) w' => e = .returned (.int .i64 (rowL b (byts s) : Nat)) ∧ Below w.heap.size w w') = Q at *
 have CD := Lib.hid (fun n hn w1 hR => number_digit s b n w.heap.size hn hb w1 hR)
 go_enter Tryd.func61, Tryd.ntmps61
 go_wp2_with fail
 go_loopw [] (fun wr => ∃ n : Nat, n ≤ s.size ∧ rowL b (byts s) = n + rowAt b s n ∧ RW wr w.heap.size s b n ∧ Below w.heap.size w wr) (fun wr => s.size - rwN w.heap.size wr)
 case atStart => exact ⟨0, Nat.zero_le _, by unfold rowAt; simp, RW.new w s b, (((Below.refl _ _).alloc (Nat.le_refl _) _).alloc (by simp) _).alloc (by simp; omega) _⟩
 case round =>
  obtain ⟨n, hn, hr, hR, hB⟩ := hrel
  have HR := Lib.hid hR
  have HB := Lib.hid hB
  have HE := Lib.hid hr
  have CDn := CD.out n hn _ hR
  clear hr hB hR
  cases hd : isDig s b n
  ·rw [hd] at CDn
   have CC := Lib.hid CDn
   have H0 := Lib.hid (rowAt_no hd)
   clear CDn hd
   go_wp2_with fail
   refine CC.out.mono ?_
   rintro e w1 ⟨rfl, k, rfl⟩
   have c2 := (HR.out.drewN k).c2
   have HB1 := Lib.hid (bdrewN HB.out k)
   clear HB CC
   generalize wr.drewN k = w1 at *
   go_wp2_with fail
   show Q (.returned (.int .i64 _)) _
   exact HQ.out _ _ (by rw [HE.out, H0.out, Nat.add_zero]) HB1.out
  ·rw [hd] at CDn
   have CC := Lib.hid CDn
   have hlt : n < s.size := by unfold isDig at hd; simp at hd; exact hd.1
   have HT := Lib.hid (rowAt_two hd)
   have HO := Lib.hid (rowAt_one hd)
   clear CDn hd
   go_wp2_with fail
   refine CC.out.mono ?_
   rintro e w1 ⟨rfl, k, rfl⟩
   have hw1 : (n : Int) + 1 ≤ 2147483648 := by omega
   have hR1 := HR.out.drewN k
   have HBk := Lib.hid (bdrewN HB.out k)
   clear HB CC
   generalize wr.drewN k = w1 at *
   have c2 := hR1.c2
   have z2 := hR1.z2
   have HR2 : RowKit.Hid (RW (w1.setCell ⟨w.heap.size + 1 + 1, 0, none⟩ (.int .i64 ((n : Int) + 1))) w.heap.size s b ((n + 1 : Nat) : Int)) := Lib.hid (by rw [show ((n + 1 : Nat) : Int) = (n : Int) + 1 by omega]; exact hR1.set _)
   have HB2 := Lib.hid (HBk.out.setCell (p := ⟨w.heap.size + 1 + 1, 0, none⟩) (by show w.heap.size ≤ w.heap.size + 1 + 1; omega) (.int .i64 ((n : Int) + 1)))
   clear hR1
   go_wp2_with fail
   have hr2 := HR2.out
   have c0 := hr2.c0; have c1 := hr2.c1; have c2 := hr2.c2; have z2 := hr2.z2
   have hw2 : IntKind.i64.wrap (((n + 1 : Nat) : Int) + 1) = ((n + 1 : Nat) : Int) + 1 := by rw [IntKind.wrap_i64]; omega
   clear hr2 hw1
   generalize w1.setCell ⟨w.heap.size + 1 + 1, 0, none⟩ (.int .i64 ((n : Int) + 1)) = w2 at *
   clear HBk
   generalize hm : n + 1 = m at *
   have HM := Lib.hid hm
   clear hm
   have hm0 : (0 : Int) ≤ m := by omega
   by_cases g1 : m + 1 < s.size
   ·have g1' : (m : Int) + 1 < s.size := by omega
    have g3' : ((m : Int) + 1).toNat = m + 1 := by omega
    have g2' : (m : Int) < s.size := by have := HM.out; omega
    have yy : ∀ h, ((s[m]'h).toNat : Int) = (bt s m : Int) := fun h => by rw [bt_at s m h]
    by_cases h95 : bt s m = 95
    ·have h95' : (bt s m : Int) = 95 := by omega
     have hm1 : (0 : Int) ≤ (m : Int) + 1 := by omega
     have zz : ∀ h, ((s[m + 1]'h).toNat : Int) = (bt s (m + 1) : Int) := fun h => by rw [bt_at s (m + 1) h]
     have hdv : dval (bt s (m + 1)) ≤ 99 := by unfold dval; split <;> (try split) <;> (try split) <;> omega
     have CV := Lib.hid (fun w => number_value (bt s (m + 1)) (bt_lt s (m + 1)) w)
     have HT2 : RowKit.Hid (dval (bt s (m + 1)) < b → rowAt b s n = 2 + rowAt b s (m + 1)) := Lib.hid fun h => by
      have e := HM.out
      subst e
      exact HT.out g1 h95 h
     have HO2 : RowKit.Hid (¬ dval (bt s (m + 1)) < b → rowAt b s n = 1 + rowAt b s m) := Lib.hid fun h => by
      have e := HM.out
      subst e
      exact HO.out fun hh => h hh.2.2
     clear HT HO
     generalize bt s m = c at *
     subst h95
     generalize bt s (m + 1) = d at *
     generalize dval d = x at *
     have CV' : ∀ n, Calls Tryd.prog 72 #[.int .u8 (d : Int)] (w2.drewN n) fun e w' => e = .returned (.int .i64 (x : Nat)) ∧ ∃ m, w' = w2.drewN m := fun n => Calls.quiet_of_same ((CV.out _).mono fun e w' h => ⟨h.1, h.2.symm⟩)
     have CC := Lib.hid CV'
     clear CV' CV
     by_cases hx : x < b
     ·have hx' : (x : Int) < b := by omega
      go_quiet (exact CC.out _)
      have hr3 := HR2.out.drewN nq
      have HB3 := Lib.hid (bdrewN HB2.out nq)
      clear HB2 CC HR2
      generalize w2.drewN nq = w3 at *
      have c2 := hr3.c2; have z2 := hr3.z2
      have HR4 : RowKit.Hid (RW (w3.setCell ⟨w.heap.size + 1 + 1, 0, none⟩ (.int .i64 ((m : Int) + 1))) w.heap.size s b ((m + 1 : Nat) : Int)) := Lib.hid (by rw [show ((m + 1 : Nat) : Int) = (m : Int) + 1 by omega]; exact hr3.set _)
      have HB4 := Lib.hid (HB3.out.setCell (p := ⟨w.heap.size + 1 + 1, 0, none⟩) (by show w.heap.size ≤ w.heap.size + 1 + 1; omega) (.int .i64 ((m : Int) + 1)))
      clear hr3
      go_wp2_with fail
      go_roundw
      case rel => exact ⟨m + 1, by omega, by have := HT2.out hx; have := HE.out; have := HM.out; omega, HR4.out, HB4.out⟩
      case measure => rw [HR4.out.n, HR.out.n]; have := HM.out; omega
     ·have hx' : ¬ (x : Int) < b := by omega
      go_quiet (exact CC.out _)
      have HR3 := Lib.hid (HR2.out.drewN nq)
      have HB3 := Lib.hid (bdrewN HB2.out nq)
      clear HB2 CC HR2
      generalize w2.drewN nq = w3 at *
      go_wp2_with fail
      go_roundw
      case rel => exact ⟨m, by omega, by have := HO2.out hx; have := HE.out; have := HM.out; omega, HR3.out, HB3.out⟩
      case measure => rw [HR3.out.n, HR.out.n]; have := HM.out; omega
    ·have h95' : ¬ (bt s m : Int) = 95 := by omega
     have HO2 : RowKit.Hid (rowAt b s n = 1 + rowAt b s m) := Lib.hid (by
      have e := HM.out
      subst e
      exact HO.out fun hh => h95 hh.2.1)
     clear HT HO
     generalize bt s m = c at *
     go_quiet (fail)
     have HR3 := Lib.hid (HR2.out.drewN nq)
     have HB3 := Lib.hid (bdrewN HB2.out nq)
     clear HB2 HR2
     generalize w2.drewN nq = w3 at *
     go_wp2_with fail
     go_roundw
     case rel => exact ⟨m, by omega, by have := HO2.out; have := HE.out; have := HM.out; omega, HR3.out, HB3.out⟩
     case measure => rw [HR3.out.n, HR.out.n]; have := HM.out; omega
   ·have g1' : ¬ (m : Int) + 1 < s.size := by omega
    have HO2 : RowKit.Hid (rowAt b s n = 1 + rowAt b s m) := Lib.hid (by
     have e := HM.out
     subst e
     exact HO.out fun hh => g1 hh.1)
    clear HT HO
    go_quiet (fail)
    have HR3 := Lib.hid (HR2.out.drewN nq)
    have HB3 := Lib.hid (bdrewN HB2.out nq)
    clear HB2 HR2
    generalize w2.drewN nq = w3 at *
    go_wp2_with fail
    go_roundw
    case rel => exact ⟨m, by have := HM.out; omega, by have := HO2.out; have := HE.out; have := HM.out; omega, HR3.out, HB3.out⟩
    case measure => rw [HR3.out.n, HR.out.n]; have := HM.out; omega
end Go.Proofs.YtmklemelgdilkaaDoor
