/- Layer 11 in plain Lean: the document's examples. -/
import Derived.Test.YtpjglenogifclaaGreatDoorReadM
import Derived.Test.YtpjglenogifclaaGreatDoorCheckCM
import Derived.Test.YtpjglenogifclaaGreatDoorRefSwapM
import Derived.Test.YtpjglenogifclaaGreatDoorReadWM
namespace Go.Proofs.YtpjglenogifclaaGreatDoor
set_option linter.all false

def fixT : ByteArray := ⟨#[40, 51, 55, 32, 34, 43, 34, 32, 40, 50, 54, 32, 34, 97, 34, 41, 32, 40, 50, 54, 32, 34, 98, 34, 41, 41]⟩
def fixM : List Prt := [(37, 2, ⟨#[43]⟩), (27, 0, ⟨#[49]⟩), (26, 0, ⟨#[98]⟩)]
theorem fix_show : showZ sumL = ([40, 51, 55, 32, 34, 43, 34, 32, 40, 50, 54, 32, 34, 97, 34, 41, 32, 40, 50, 54, 32, 34, 98, 34, 41, 41], 0) := by decide +kernel
theorem fix_swap : swapZ sumL 1 1 [(27, 0, ⟨#[49]⟩)] = (fixM, 0) := by decide +kernel
theorem fix_check : checkB sumL = true := by decide +kernel
theorem fix_read : readZ fixT = (sumL, 0) := by decide +kernel
end Go.Proofs.YtpjglenogifclaaGreatDoor
namespace Go.Proofs.YtpjglenogifclaaGreatDoor
set_option linter.all false
open Go.RowKit

set_option maxRecDepth 100000 in
set_option maxHeartbeats 16000000 in
theorem law_fixed (w : World) (hT : Tabs w) (hM : MaxC w) (hE : ErrC w) (hP : Lib.TabIs Tryz.prog w "internal/strconv.uint64pow10" .u64 Lib.pow10Tab) :
    Calls Tryz.prog 12 #[] w fun e w' => e = .returned (.bool true) ∧ Below w.heap.size w w' := by
  have HQ : RowKit.Hid (∀ w', Below w.heap.size w w' → (fun (e : Ending) w' => e = .returned (.bool true) ∧ Below w.heap.size w w') (.returned (.bool true)) w') := Lib.hid fun w' h => ⟨rfl, h⟩
  generalize (fun (e : Ending) w' => e = .returned (.bool true) ∧ Below w.heap.size w w') = Q at *
  have HT := Lib.hid hT
  have HM := Lib.hid hM
  have HE := Lib.hid hE
  have HP := Lib.hid (Lib.tabBelow_of_tabIs hP)
  clear hT hM hE hP
  have C1 := Lib.hid (law_sum w)
  go_enter Tryz.func12, Tryz.ntmps12
  go_wp2_with fail
  refine C1.out.mono ?_
  rintro e w1 ⟨rfl, hb1, ho1⟩
  clear C1
  have hr1 : PartRow w1 _ sumL := Row.of_owns ho1
  have C2 := Lib.hid (term_Show sumL (by decide) (by intro p hp; simp [sumL] at hp; rcases hp with rfl | rfl | rfl <;> decide) _ w1 (HP.out w1 hb1) hr1)
  have HB1 := Lib.hid hb1
  clear hb1 ho1 hr1
  go_wp2_with fail
  refine C2.out.mono ?_
  intro e w2 h2
  unfold showPost at h2
  rw [fix_show] at h2
  obtain ⟨rfl, hb2⟩ := h2
  have HB2 := Lib.hid (bthen HB1.out hb2)
  clear hb2 C2 HB1
  have C3 := Lib.hid (term_Read fixT (by decide) w2 (HT.out.below HB2.out) (HM.out.below HB2.out) (HE.out.below HB2.out) (HP.out w2 HB2.out))
  go_wp2_with fail
  refine C3.out.mono ?_
  intro e w3 h3
  unfold swapPost at h3
  rw [fix_read] at h3
  obtain ⟨v3, rfl, hb3, ho3⟩ := h3
  have HB3 := Lib.hid (bthen HB2.out hb3)
  obtain ⟨_, ra, rc, rfl, hrc, _, _⟩ := Row.of_owns ho3
  have HO3 := Lib.hid ho3
  clear hb3 ho3 C3
  have C4 := Lib.hid (law_sum w3)
  go_wp2_with fail
  refine C4.out.mono ?_
  rintro e w4 ⟨rfl, hb4, ho4⟩
  clear C4
  have HR4 := Lib.hid (show PartRow w4 _ sumL from Row.of_owns ho4)
  have HR3 := Lib.hid (show PartRow w4 _ sumL from Row.below (Row.of_owns HO3.out) hb4)
  have HB4 := Lib.hid (bthen HB3.out hb4)
  clear hb4 ho4 HO3
  have hA : Below w4.heap.size w4 (w4.alloc (.cells #[.int .u8 27, .int .i64 0, .string ⟨#[49]⟩] 28)) := (Below.refl _ _).alloc (Nat.le_refl _) _
  have HA := Lib.hid hA
  have C5 := Lib.hid (term_Swap sumL (by decide) _ 1 1 [(27, 0, ⟨#[49]⟩)] (by decide) _ _ (HR4.out.below hA) (Row.of_owns (lit_owns w4 w4.heap.size (Nat.le_refl _) [(27, 0, ⟨#[49]⟩)] (by decide))))
  clear hA
  go_wp2_with fail
  refine C5.out.mono ?_
  intro e w5 h5
  unfold swapPost at h5
  rw [fix_swap] at h5
  obtain ⟨v5, rfl, hb5, ho5⟩ := h5
  have HB5 := Lib.hid (bthen HB4.out (bthen HA.out hb5))
  have hr3 := (HR3.out.below (bthen HA.out hb5))
  obtain ⟨g5, c5, rfl⟩ : ∃ g c, v5 = .slice (some ⟨g, 0, none⟩) 3 c := by
    obtain ⟨_, a, c, rfl, _, _, _⟩ := Row.of_owns ho5
    obtain ⟨g, rfl⟩ := ownsRow_some ho5 (by decide)
    exact ⟨g, c, rfl⟩
  have HO5 := Lib.hid ho5
  have HR5 := Lib.hid hr3
  clear hb5 ho5 hr3 C5 HA HR3 HR4
  have C6 := Lib.hid (law_sum w5)
  go_wp2_with fail
  refine C6.out.mono ?_
  rintro e w6 ⟨rfl, hb6, ho6⟩
  have hb5w := HB5.out
  have HB6 := Lib.hid (bthen HB5.out hb6)
  have C7 := Lib.hid (ref_Same11 _ _ sumL sumL (by decide) (by decide) w6 (HR5.out.below hb6) (Row.of_owns ho6))
  have HO6 := Lib.hid (owns_below HO5.out (hb6.mono (by have := hb5w.size; omega)))
  clear C6 hb6 ho6 HR5 HO5 hb5w
  go_wp2_with fail
  refine C7.out.mono ?_
  rintro e w7 ⟨x, rfl, hx, hb7⟩
  obtain rfl : x = true := hx.mpr rfl
  have hb6w := HB6.out
  have HB7 := Lib.hid (bthen HB6.out hb7)
  have HO7 := owns_below HO6.out (hb7)
  have l5 : w7.cell? ⟨g5, 5, none⟩ = some (.string ⟨#[49]⟩) := by rw [HO7.cellAt _ (by decide)]; rfl
  have C8 := Lib.hid (law_sum w7)
  clear hb7 HO7 HO6 hx C7 hb6w
  go_wp2_with fail
  refine C8.out.mono ?_
  rintro e w8 ⟨rfl, hb8, ho8⟩
  have HB8 := Lib.hid (bthen HB7.out hb8)
  have C9 := Lib.hid (term_Check sumL (by decide) (by intro p hp; simp [sumL] at hp; rcases hp with rfl | rfl | rfl <;> decide) _ w8 (HT.out.below HB8.out) (HM.out.below HB8.out) (Row.of_owns ho8))
  clear C8 hb8 ho8
  go_wp2_with fail
  refine C9.out.mono ?_
  rw [fix_check]
  rintro e w9 ⟨rfl, hb9⟩
  have HX := Lib.hid (HQ.out w9 (bthen HB8.out hb9))
  clear hb9 C9
  go_wp2_with fail
  exact HX.out
end Go.Proofs.YtpjglenogifclaaGreatDoor
namespace Go.Proofs.YtpjglenogifclaaGreatDoor
set_option linter.all false
open Go.RowKit

/-- Words as the statements' inputs hold them. -/
def Small (l : List Prt) : Prop := l.length ≤ 1048576 ∧ ∀ p ∈ l, p.1 < 256 ∧ p.2.2.size ≤ 1048576
theorem Small.fine {l : List Prt} (h : Small l) : FineP l := fun p hp => ⟨(h.2 p hp).1, by have := (h.2 p hp).2; omega⟩
set_option maxRecDepth 100000 in
set_option maxHeartbeats 16000000 in
theorem law_great (l : List Prt) (hs : Small l) (v : Value) (w : World) (hr : PartRow w v l) :
    Calls Tryz.prog 11 #[v] w fun e w' => ∃ g, e = .returned (.bool g) ∧ w = w' ∧ (g = false → l.length ≤ 2000) := by
  have HQ : RowKit.Hid (∀ g, (g = false → l.length ≤ 2000) → (fun (e : Ending) w' => ∃ g, e = .returned (.bool g) ∧ w = w' ∧ (g = false → l.length ≤ 2000)) (.returned (.bool g)) w) := Lib.hid fun g h => ⟨g, rfl, rfl, h⟩
  generalize (fun (e : Ending) w' => ∃ g, e = .returned (.bool g) ∧ w = w' ∧ (g = false → l.length ≤ 2000)) = Q at *
  have HR := Lib.hid hr
  have HS := Lib.hid hs
  have hl := hs.1
  obtain ⟨va, vcap, rfl, hvc⟩ := hr.slice
  clear hr hs
  go_enter Tryz.func11, Tryz.ntmps11
  go_wp2_with fail
  go_loopw [3, 4] (fun n i wr => ∃ (a k : Nat), n = .int .i64 (a : Int) ∧ i = .int .i64 (k : Int) ∧ a ≤ 2097152 ∧ l.length ≤ a ∧ k ≤ l.length ∧ w = wr) (fun _ i _ => l.length - (intOf i).toNat)
  case atStart => exact ⟨l.length, 0, rfl, rfl, by omega, Nat.le_refl _, Nat.zero_le _, rfl⟩
  case round =>
    obtain ⟨a, k, rfl, rfl, ha, hla, hk, rfl⟩ := hrel
    by_cases hlt : k < l.length
    · have hkl : (k : Int) < l.length := by omega
      by_cases hg : a ≤ 2000
      · have hgi : (a : Int) ≤ 2000 := by omega
        obtain ⟨b1, o1, rfl, _, _, _, hc1⟩ := HR.out.at (Below.refl _ _) (show 0 < l.length by omega)
        obtain ⟨d0, d1, d2⟩ := hc1 k hlt
        have hk0 : (0 : Int) ≤ k := by omega
        have hkc : (k : Int) < vcap := by omega
        have hz := (HS.out.2 _ (List.getElem_mem hlt)).2
        have hwk : IntKind.i64.wrap ((k : Int) + 1) = (k : Int) + 1 := by rw [IntKind.wrap_i64]; omega
        have hwa : IntKind.i64.wrap ((a : Int) + ((l[k]).2.2.size : Int)) = (a : Int) + ((l[k]).2.2.size : Int) := by rw [IntKind.wrap_i64]; omega
        clear hc1 d0 d1
        generalize (l[k]).2.2 = x at *
        go_wp2_with fail
        go_round
        case rel => exact ⟨a + x.size, k + 1, by go_num, by go_num, by omega, by omega, by omega, (by first | rfl | trivial)⟩
        case measure => simp [intOf]; omega
      · have hgi : ¬ (a : Int) ≤ 2000 := by omega
        have hgj : (2000 : Int) < (a : Int) := by omega
        have HX := Lib.hid (HQ.out true (fun h => by cases h))
        go_wp2_with fail
        exact HX.out
    · have hkl : ¬ (k : Int) < l.length := by omega
      have HX := Lib.hid (HQ.out (decide ((2000 : Int) < (a : Int))) (fun h => by have := of_decide_eq_false h; omega))
      go_wp2_with fail
      exact HX.out
end Go.Proofs.YtpjglenogifclaaGreatDoor
namespace Go.Proofs.YtpjglenogifclaaGreatDoor
set_option linter.all false
open Go.RowKit

structure Held (w : World) : Prop where
  T : Tabs w
  M : MaxC w
  E : ErrC w
  P : Lib.TabIs Tryz.prog w "internal/strconv.uint64pow10" .u64 Lib.pow10Tab
theorem Held.below {w w' : World} (h : Held w) (hb : Below w.heap.size w w') : Held w' := ⟨h.T.below hb, h.M.below hb, h.E.below hb, Lib.tabBelow_of_tabIs h.P w' hb⟩
theorem fixed11 (w : World) (h : Held w) : Calls Tryz.prog 12 #[] w fun e w' => e = .returned (.bool true) ∧ Below w.heap.size w w' := law_fixed w h.T h.M h.E h.P
/-- A statement's answer. -/
@[irreducible] def Answers (w : World) (e : Ending) (w' : World) : Prop := e = .returned (.bool true) ∧ Below w.heap.size w w'
theorem Answers.mk {w w' : World} (h : Below w.heap.size w w') : Answers w (.returned (.bool true)) w' := by unfold Answers; exact ⟨rfl, h⟩
theorem Answers.out {w w' : World} {e : Ending} (h : Answers w e w') : e = .returned (.bool true) ∧ Below w.heap.size w w' := by unfold Answers at h; exact h
theorem Small.two {l : List Prt} (h : Small l) : ∀ p ∈ l, p.1 < 256 ∧ p.2.2.size ≤ 2147483647 := h.fine
end Go.Proofs.YtpjglenogifclaaGreatDoor
namespace Go.Proofs.YtpjglenogifclaaGreatDoor
set_option linter.all false

theorem take_two (l : List Prt) (a b x y z : Nat) (hb : b = a + x) (hz : z = x + y) : (l.drop a).take x ++ (l.drop b).take y = (l.drop a).take z := by
  rw [hz, List.take_add, List.drop_drop, hb]
theorem at_byte {s : ByteArray} {i : Nat} {c : UInt8} {X : List UInt8} (h : s.data.toList.drop i = c :: X) : i < s.size ∧ bt s i = c.toNat ∧ s.data.toList.drop (i + 1) = X := by
  have hl : i < s.data.toList.length := by
    apply Classical.byContradiction
    intro hn
    rw [List.drop_eq_nil_of_le (by omega)] at h
    cases h
  rw [List.drop_eq_getElem_cons hl] at h
  simp only [List.cons.injEq] at h
  exact ⟨by rw [size_data]; exact hl, by rw [data_get s i hl, h.1], h.2⟩
theorem at_run {s : ByteArray} {i : Nat} {L X : List UInt8} (h : s.data.toList.drop i = L ++ X) : s.data.toList.drop (i + L.length) = X := by
  rw [← List.drop_drop, h, List.drop_left]
theorem ext_run {s : ByteArray} {i : Nat} {L X : List UInt8} (h : s.data.toList.drop i = L ++ X) : (s.extract i (i + L.length)).data.toList = L := by
  rw [extract_data, h, show i + L.length - i = L.length by omega, List.take_left]
theorem dE_run {s : ByteArray} {c : UInt8} (hc : ¬ (48 ≤ c.toNat ∧ c.toNat ≤ 57)) : ∀ (D : List UInt8) (j : Nat) (X : List UInt8), (∀ d ∈ D, 48 ≤ d.toNat ∧ d.toNat ≤ 57) → s.data.toList.drop j = D ++ c :: X → dE s j = j + D.length
  | [], j, X, _, h => by
    have h1 := at_byte h
    rw [dE_no (by rw [h1.2.1]; omega)]; rfl
  | d :: D, j, X, hd, h => by
    obtain ⟨h1, h2, h3⟩ := at_byte h
    have hd0 := hd d List.mem_cons_self
    rw [dE_yes h1 (by omega) (by omega), dE_run hc D (j + 1) X (fun d hd' => hd d (List.mem_cons_of_mem _ hd')) h3, List.length_cons]
    omega
theorem dec_parse : ∀ n, n < 256 → Lib.parseUintB 8 (Lib.decDigits n) = .ok n := by decide +kernel
theorem dec_digs : ∀ n, n < 256 → ∀ d ∈ Lib.decDigits n, 48 ≤ d.toNat ∧ d.toNat ≤ 57 := by decide +kernel
theorem kind_dec {ds : ByteArray} {n : Nat} (hn : n < 256) (h : ds.data.toList = Lib.decDigits n) : kindZ ds = some n := by
  unfold kindZ
  rw [h, dec_parse n hn]
  simp
theorem quote_head (w : ByteArray) : ∃ X, (quote w).data.toList = 34 :: X := by
  unfold quote
  rw [strOfNums_data]
  exact ⟨_, rfl⟩
theorem word_at {s : ByteArray} {q : Nat} {w : ByteArray} {R : List UInt8} (n : Nat) (h : s.data.toList.drop q = (quote w).data.toList ++ R) (hw : w.toList.isEmpty = false) : wordZ s n q = some (n, w, q + (quote w).size) := by
  have hext : s.extract q (q + (quote w).size) = quote w := by
    have := ext_run h
    rw [← size_data] at this
    exact ByteArray.ext (by rw [← Array.toList_inj]; exact this)
  have hq : q ≤ s.size := by
    obtain ⟨X, hX⟩ := quote_head w
    rw [hX, List.cons_append] at h
    have := (at_byte h).1; omega
  have hs : s.extract q s.size = quote w ++ ⟨R.toArray⟩ := by
    refine ByteArray.ext (by rw [← Array.toList_inj, extract_data, h, data_append, List.take_of_length_le]; rw [← h, List.length_drop, ← size_data]; exact Nat.le_refl _)
  have hcut := cut_at s q hq
  rw [hs] at hcut
  have hsz : (s.extract 0 q).size = q := by rw [ByteArray.size_extract]; omega
  have hb := quote_begun w ⟨R.toArray⟩
  obtain ⟨X, hX⟩ := quote_head w
  have h34 : bt s q = 34 := by rw [hX, List.cons_append] at h; exact (at_byte h).2.1
  have hlt : q < s.size := by rw [hX, List.cons_append] at h; exact (at_byte h).1
  have h340 : bt (quote w ++ ⟨R.toArray⟩) 0 = 34 ∧ 0 < (quote w ++ (⟨R.toArray⟩ : ByteArray)).size := by
    have := at_byte (s := quote w ++ ⟨R.toArray⟩) (i := 0) (c := 34) (X := X ++ R) (by rw [List.drop_zero, data_append, hX]; rfl)
    exact ⟨this.2.1, this.1⟩
  rw [show (0 : Int) = ((0 : Nat) : Int) by rfl, begun_body h340.2 h340.1] at hb
  have hbody : ∃ e l, body (quote w ++ ⟨R.toArray⟩) (0 + 1) = some (e, l) ∧ e = (quote w).size ∧ strOfNums l = w := by
    cases hbd : body (quote w ++ (⟨R.toArray⟩ : ByteArray)) (0 + 1) with
    | none => rw [hbd] at hb; simp at hb
    | some p =>
      obtain ⟨e, l⟩ := p
      rw [hbd] at hb
      simp only [Prod.mk.injEq] at hb
      exact ⟨e, l, rfl, by omega, hb.2.2.1⟩
  obtain ⟨e, l, hbd, rfl, hl⟩ := hbody
  have hbs : body s (q + 1) = some (q + (quote w).size, l) := by
    have := body_right (s.extract 0 q) (quote w ++ ⟨R.toArray⟩) (0 + 1)
    rw [hcut, hsz, hbd] at this
    simpa using this
  have hbg : begun s q = (7, ((q + (quote w).size : Nat) : Int), w, 0) := by
    rw [begun_body hlt h34, hbs]
    simp only [hl]
  unfold wordZ
  rw [hbg]
  simp only [Int.toNat_natCast, if_true]
  rw [hext, quote_value]
  simp only [hw, Bool.false_eq_true, if_false, if_true]
theorem empty_bytes {w : ByteArray} (h : w.toList.isEmpty = true) : w = ByteArray.empty := by
  rw [ByteArray.toList_eq] at h
  have : w.data.toList = [] := by simpa using h
  exact ByteArray.ext (by rw [← Array.toList_inj, this]; rfl)
/-- A part's beginning is read. -/
theorem part_at {s : ByteArray} {i : Nat} {p : Prt} {R : List UInt8} (hp : p.1 < 256) (h : s.data.toList.drop i = opn p ++ R) (hR : ∃ c R', R = c :: R' ∧ (c = 41 ∨ (c = 32 ∧ ∃ R'', R' = 40 :: R''))) : partZ s i = some (p.1, p.2.2, i + (opn p).length) := by
  obtain ⟨c, R', rfl, hc⟩ := hR
  unfold opn at h
  rw [List.cons_append] at h
  obtain ⟨h1, h2, h3⟩ := at_byte h
  rw [List.append_assoc] at h3
  by_cases hw : p.2.2.toList.isEmpty = true
  · rw [if_pos hw, List.nil_append] at h3
    have hcn : ¬ (48 ≤ c.toNat ∧ c.toNat ≤ 57) := by rcases hc with rfl | ⟨rfl, _⟩ <;> decide
    have hd := dE_run hcn _ _ _ (dec_digs _ hp) h3
    have hk := kind_dec (ds := s.extract (i + 1) (i + 1 + (Lib.decDigits p.1).length)) hp (ext_run h3)
    have hx := at_run h3
    rw [partZ_bare h1 h2 hd hk]
    · unfold opn
      rw [if_pos hw, empty_bytes hw]
      simp; omega
    · obtain ⟨y1, y2, y3⟩ := at_byte hx
      rintro ⟨g1, g2, g3⟩
      rcases hc with rfl | ⟨rfl, R'', rfl⟩
      · rw [y2] at g2; exact absurd g2 (by decide)
      · obtain ⟨z1, z2, z3⟩ := at_byte y3
        rw [z2] at g3; exact absurd g3 (by decide)
  · rw [if_neg hw, List.cons_append] at h3
    have hd := dE_run (by decide) _ _ _ (dec_digs _ hp) h3
    have hk := kind_dec (ds := s.extract (i + 1) (i + 1 + (Lib.decDigits p.1).length)) hp (ext_run h3)
    have hx := at_run h3
    obtain ⟨y1, y2, y3⟩ := at_byte hx
    obtain ⟨X, hX⟩ := quote_head p.2.2
    have y4 := y3
    rw [hX, List.cons_append] at y4
    obtain ⟨z1, z2, z3⟩ := at_byte y4
    rw [partZ_word h1 h2 hd hk ⟨z1, y2, z2⟩, word_at p.1 y3 (by simpa using hw)]
    unfold opn
    rw [if_neg hw, size_data]
    simp; omega
theorem treeX_head {l : List Prt} {j f : Nat} (hj : j < l.length) (hf : l.length - j ≤ f) : ∃ X, treeX l f j = 40 :: X := by
  obtain ⟨f', rfl⟩ : ∃ f', f = f' + 1 := ⟨f - 1, by omega⟩
  rw [treeX_at hj]
  exact ⟨_, rfl⟩
/-- A tree is read where its text stands. -/
theorem rdZ_at {s : ByteArray} {l : List Prt} {us : List Nat} (hu : rowsB l = some us) (hk : ∀ p ∈ l, p.1 < 256) : ∀ (f i j F : Nat) (R : List UInt8), j < l.length → l.length - j ≤ F → s.size < i + f → s.data.toList.drop i = treeX l F j ++ R →
    rdZ s f i = some ((l.drop j).take (endB l j - j), i + (treeX l F j).length)
  | 0, i, j, F, R, hj, hF, hf, h => by
    obtain ⟨X, hX⟩ := treeX_head hj hF
    rw [hX, List.cons_append] at h
    have := (at_byte h).1
    omega
  | f + 1, i, j, F, R, hj, hF, hf, h => by
    obtain ⟨F', rfl⟩ : ∃ F', F = F' + 1 := ⟨F - 1, by omega⟩
    obtain ⟨ts, q, h1, h2, h3, h4, _⟩ := kids_facts hu hj
    rw [treeX_at hj, h2, Int.toNat_natCast] at h ⊢
    have hlen := (rowsB_sum h1).1
    rw [List.length_drop] at hlen
    have kids : ∀ (g n m : Nat) (acc : List Prt) (pos : Nat), n + m = q → s.size < pos + g → i < pos → s.data.toList.drop pos = kidsT l (treeX l F') n (j + 1 + (ts.take m).sum) ++ 41 :: R →
        rdK s (rdZ s f) g (m : Int) acc pos = some ((q : Int), acc ++ (l.drop (j + 1 + (ts.take m).sum)).take ((ts.take q).sum - (ts.take m).sum), pos + (kidsT l (treeX l F') n (j + 1 + (ts.take m).sum)).length) := by
      intro g
      induction g with
      | zero =>
        intro n m acc pos _ hg _ hd
        exfalso
        cases n with
        | zero => have := (at_byte hd).1; omega
        | succ n => have := (at_byte hd).1; omega
      | succ g ih =>
        intro n m acc pos hnm hg hip hd
        cases n with
        | zero =>
          obtain rfl : m = q := by omega
          obtain ⟨y1, y2, y3⟩ := at_byte hd
          unfold rdK
          rw [if_neg (by rw [y2]; rintro ⟨_, g2⟩; exact absurd g2 (by decide))]
          simp [kidsT]
        | succ n =>
          obtain ⟨s1, s2, _, s4, s5, s6⟩ := kid_step hu h1 h3 (show m < q by omega)
          rw [kidsT, List.cons_append] at hd
          obtain ⟨y1, y2, y3⟩ := at_byte hd
          rw [List.append_assoc, s2] at y3
          have hr := rdZ_at hu hk f (pos + 1) (j + 1 + (ts.take m).sum) F' _ s1 (by omega) (by omega) y3
          have hx := at_run y3
          unfold rdK
          rw [if_pos ⟨y1, y2⟩, hr]
          simp only []
          have := ih n (m + 1) (acc ++ (l.drop (j + 1 + (ts.take m).sum)).take (endB l (j + 1 + (ts.take m).sum) - (j + 1 + (ts.take m).sum))) (pos + 1 + (treeX l F' (j + 1 + (ts.take m).sum)).length) (by omega) (by omega) (by omega) hx
          rw [show ((m : Int) + 1) = ((m + 1 : Nat) : Int) by omega, this, s2, kidsT, s2, List.length_cons, List.length_append, List.append_assoc]
          have e1 : (l.drop (j + 1 + (ts.take m).sum)).take (j + 1 + (ts.take (m + 1)).sum - (j + 1 + (ts.take m).sum)) ++ (l.drop (j + 1 + (ts.take (m + 1)).sum)).take ((ts.take q).sum - (ts.take (m + 1)).sum) = (l.drop (j + 1 + (ts.take m).sum)).take ((ts.take q).sum - (ts.take m).sum) := take_two l _ _ _ _ _ (by omega) (by omega)
          rw [e1]
          congr 3
          · omega
    have hpart := part_at (s := s) (i := i) (p := l[j]) (R := kidsT l (treeX l F') q (j + 1) ++ 41 :: R) (hk _ (List.getElem_mem hj)) (by rw [h]; simp) (by
      cases q with
      | zero => exact ⟨41, R, rfl, Or.inl rfl⟩
      | succ q =>
        have s1 := (kid_step hu h1 h3 (show 0 < q + 1 by omega)).1
        simp only [List.take_zero, List.sum_nil, Nat.add_zero] at s1
        obtain ⟨X, hX⟩ := treeX_head s1 (show l.length - (j + 1) ≤ F' by omega)
        exact ⟨32, _, rfl, Or.inr ⟨rfl, by rw [hX]; exact ⟨_, rfl⟩⟩⟩)
    have hd2 : s.data.toList.drop (i + (opn l[j]).length) = kidsT l (treeX l F') q (j + 1) ++ 41 :: R := at_run (by rw [h]; simp)
    have hop : 0 < (opn l[j]).length := by unfold opn; simp
    have hrk := kids (s.size + 1) q 0 [] (i + (opn l[j]).length) (by omega) (by omega) (by omega) (by simpa using hd2)
    have hx := at_byte (at_run hd2)
    unfold rdZ
    rw [hpart]
    simp only []
    simp only [List.take_zero, List.sum_nil, Nat.add_zero, Nat.sub_zero, List.nil_append] at hrk
    rw [show (0 : Int) = ((0 : Nat) : Int) by rfl, hrk]
    simp only []
    rw [if_pos ⟨hx.1, hx.2.1⟩, h4, List.drop_eq_getElem_cons hj, show j + 1 + (ts.take q).sum - j = (ts.take q).sum + 1 by omega, List.take_succ_cons]
    refine congrArg some (Prod.ext ?_ ?_)
    · show _ :: _ = _ :: _
      rw [show ((l[j].1, (q : Int), l[j].2.2) : Prt) = l[j] from Prod.ext rfl (Prod.ext h2.symm rfl)]
    · simp; omega
/-- A list that is shown is read again. -/
theorem show_read {l : List Prt} (hk : ∀ p ∈ l, p.1 < 256) {T : List UInt8} (h : showZ l = (T, 0)) : readZ ⟨T.toArray⟩ = (l, 0) := by
  unfold showZ at h
  split at h
  · rename_i hw
    split at h
    · cases h
    · rename_i hl
      cases h
      have hz := well_zero hw
      have hT := showT_tree hw
      have hsz : (⟨(showT l).toArray⟩ : ByteArray).size = (showT l).length := by rw [size_data]
      have := rdZ_at (s := ⟨(showT l).toArray⟩) (well_rows hw) hk ((⟨(showT l).toArray⟩ : ByteArray).size + 1) 0 0 l.length [] hz.1 (by omega) (by omega) (by rw [List.drop_zero, List.append_nil, ← hT])
      unfold readZ
      rw [if_neg (by rw [hsz]; exact hl), readF_is, this]
      simp only []
      rw [if_pos (by rw [← hT, hsz]; omega), hz.2]
      simp
  · cases h
end Go.Proofs.YtpjglenogifclaaGreatDoor
