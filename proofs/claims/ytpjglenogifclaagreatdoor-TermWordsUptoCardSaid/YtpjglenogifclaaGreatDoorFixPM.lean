/- Layer 11 in plain Lean: the document's examples. -/
import Derived.Test.YtpjglenogifclaaGreatDoorReadWM
import Derived.Test.YtpjglenogifclaaGreatDoorCheckCM
import Derived.Test.YtpjglenogifclaaGreatDoorRefSwapM
namespace Go.Proofs.YtpjglenogifclaaGreatDoor
set_option linter.all false

def fixT : ByteArray := ⟨#[40, 51, 55, 32, 34, 43, 34, 32, 40, 50, 54, 32, 34, 97, 34, 41, 32, 40, 50, 54, 32, 34, 98, 34, 41, 41]⟩
def fixM : List Prt := [(37, 2, ⟨#[43]⟩), (27, 0, ⟨#[49]⟩), (26, 0, ⟨#[98]⟩)]
theorem fix_show : showZ sumL = ([40, 51, 55, 32, 34, 43, 34, 32, 40, 50, 54, 32, 34, 97, 34, 41, 32, 40, 50, 54, 32, 34, 98, 34, 41, 41], 0) := by decide +kernel
theorem fix_swap : swapZ sumL 1 1 [(27, 0, ⟨#[49]⟩)] = (fixM, 0) := by decide +kernel
theorem fix_check : checkB sumL = true := by decide +kernel
theorem fix_read : readZ fixT = (sumL, 0) := by decide +kernel
end Go.Proofs.YtpjglenogifclaaGreatDoor
namespace Go.Proofs.YtpjglenogifclaaGreatDoor
set_option linter.all false
open Go.RowKit

set_option maxRecDepth 100000 in
set_option maxHeartbeats 16000000 in
theorem law_fixed (w : World) (hT : Tabs w) (hM : MaxC w) (hE : ErrC w) (hP : Lib.TabIs Tryz.prog w "internal/strconv.uint64pow10" .u64 Lib.pow10Tab) :
    Calls Tryz.prog 12 #[] w fun e w' => e = .returned (.bool true) ∧ Below w.heap.size w w' := by
  have HQ : RowKit.Hid (∀ w', Below w.heap.size w w' → (fun (e : Ending) w' => e = .returned (.bool true) ∧ Below w.heap.size w w') (.returned (.bool true)) w') := Lib.hid fun w' h => ⟨rfl, h⟩
  generalize (fun (e : Ending) w' => e = .returned (.bool true) ∧ Below w.heap.size w w') = Q at *
  have HT := Lib.hid hT
  have HM := Lib.hid hM
  have HE := Lib.hid hE
  have HP := Lib.hid (Lib.tabBelow_of_tabIs hP)
  clear hT hM hE hP
  have C1 := Lib.hid (law_sum w)
  go_enter Tryz.func12, Tryz.ntmps12
  go_wp2_with fail
  refine C1.out.mono ?_
  rintro e w1 ⟨rfl, hb1, ho1⟩
  clear C1
  have hr1 : PartRow w1 _ sumL := Row.of_owns ho1
  have C2 := Lib.hid (term_Show sumL (by decide) (by intro p hp; simp [sumL] at hp; rcases hp with rfl | rfl | rfl <;> decide) _ w1 (HP.out w1 hb1) hr1)
  have HB1 := Lib.hid hb1
  clear hb1 ho1 hr1
  go_wp2_with fail
  refine C2.out.mono ?_
  intro e w2 h2
  unfold showPost at h2
  rw [fix_show] at h2
  obtain ⟨rfl, hb2⟩ := h2
  have HB2 := Lib.hid (bthen HB1.out hb2)
  clear hb2 C2 HB1
  have C3 := Lib.hid (term_Read fixT (by decide) w2 (HT.out.below HB2.out) (HM.out.below HB2.out) (HE.out.below HB2.out) (HP.out w2 HB2.out))
  go_wp2_with fail
  refine C3.out.mono ?_
  intro e w3 h3
  unfold swapPost at h3
  rw [fix_read] at h3
  obtain ⟨v3, rfl, hb3, ho3⟩ := h3
  have HB3 := Lib.hid (bthen HB2.out hb3)
  obtain ⟨_, ra, rc, rfl, hrc, _, _⟩ := Row.of_owns ho3
  have HO3 := Lib.hid ho3
  clear hb3 ho3 C3
  have C4 := Lib.hid (law_sum w3)
  go_wp2_with fail
  refine C4.out.mono ?_
  rintro e w4 ⟨rfl, hb4, ho4⟩
  clear C4
  have HR4 := Lib.hid (show PartRow w4 _ sumL from Row.of_owns ho4)
  have HR3 := Lib.hid (show PartRow w4 _ sumL from Row.below (Row.of_owns HO3.out) hb4)
  have HB4 := Lib.hid (bthen HB3.out hb4)
  clear hb4 ho4 HO3
  have hA : Below w4.heap.size w4 (w4.alloc (.cells #[.int .u8 27, .int .i64 0, .string ⟨#[49]⟩] 28)) := (Below.refl _ _).alloc (Nat.le_refl _) _
  have HA := Lib.hid hA
  have C5 := Lib.hid (term_Swap sumL (by decide) _ 1 1 [(27, 0, ⟨#[49]⟩)] (by decide) _ _ (HR4.out.below hA) (Row.of_owns (lit_owns w4 w4.heap.size (Nat.le_refl _) [(27, 0, ⟨#[49]⟩)] (by decide))))
  clear hA
  go_wp2_with fail
  refine C5.out.mono ?_
  intro e w5 h5
  unfold swapPost at h5
  rw [fix_swap] at h5
  obtain ⟨v5, rfl, hb5, ho5⟩ := h5
  have HB5 := Lib.hid (bthen HB4.out (bthen HA.out hb5))
  have hr3 := (HR3.out.below (bthen HA.out hb5))
  obtain ⟨g5, c5, rfl⟩ : ∃ g c, v5 = .slice (some ⟨g, 0, none⟩) 3 c := by
    obtain ⟨_, a, c, rfl, _, _, _⟩ := Row.of_owns ho5
    obtain ⟨g, rfl⟩ := ownsRow_some ho5 (by decide)
    exact ⟨g, c, rfl⟩
  have HO5 := Lib.hid ho5
  have HR5 := Lib.hid hr3
  clear hb5 ho5 hr3 C5 HA HR3 HR4
  have C6 := Lib.hid (law_sum w5)
  go_wp2_with fail
  refine C6.out.mono ?_
  rintro e w6 ⟨rfl, hb6, ho6⟩
  have hb5w := HB5.out
  have HB6 := Lib.hid (bthen HB5.out hb6)
  have C7 := Lib.hid (ref_Same11 _ _ sumL sumL (by decide) (by decide) w6 (HR5.out.below hb6) (Row.of_owns ho6))
  have HO6 := Lib.hid (owns_below HO5.out (hb6.mono (by have := hb5w.size; omega)))
  clear C6 hb6 ho6 HR5 HO5 hb5w
  go_wp2_with fail
  refine C7.out.mono ?_
  rintro e w7 ⟨x, rfl, hx, hb7⟩
  obtain rfl : x = true := hx.mpr rfl
  have hb6w := HB6.out
  have HB7 := Lib.hid (bthen HB6.out hb7)
  have HO7 := owns_below HO6.out (hb7)
  have l5 : w7.cell? ⟨g5, 5, none⟩ = some (.string ⟨#[49]⟩) := by rw [HO7.cellAt _ (by decide)]; rfl
  have C8 := Lib.hid (law_sum w7)
  clear hb7 HO7 HO6 hx C7 hb6w
  go_wp2_with fail
  refine C8.out.mono ?_
  rintro e w8 ⟨rfl, hb8, ho8⟩
  have HB8 := Lib.hid (bthen HB7.out hb8)
  have C9 := Lib.hid (term_Check sumL (by decide) (by intro p hp; simp [sumL] at hp; rcases hp with rfl | rfl | rfl <;> decide) _ w8 (HT.out.below HB8.out) (HM.out.below HB8.out) (Row.of_owns ho8))
  clear C8 hb8 ho8
  go_wp2_with fail
  refine C9.out.mono ?_
  rw [fix_check]
  rintro e w9 ⟨rfl, hb9⟩
  have HX := Lib.hid (HQ.out w9 (bthen HB8.out hb9))
  clear hb9 C9
  go_wp2_with fail
  exact HX.out
end Go.Proofs.YtpjglenogifclaaGreatDoor
namespace Go.Proofs.YtpjglenogifclaaGreatDoor
set_option linter.all false
open Go.RowKit

/-- Words as the statements' inputs hold them. -/
def Small (l : List Prt) : Prop := l.length ≤ 1048576 ∧ ∀ p ∈ l, p.1 < 256 ∧ p.2.2.size ≤ 1048576
theorem Small.fine {l : List Prt} (h : Small l) : FineP l := fun p hp => ⟨(h.2 p hp).1, by have := (h.2 p hp).2; omega⟩
set_option maxRecDepth 100000 in
set_option maxHeartbeats 16000000 in
theorem law_great (l : List Prt) (hs : Small l) (v : Value) (w : World) (hr : PartRow w v l) :
    Calls Tryz.prog 11 #[v] w fun e w' => ∃ g, e = .returned (.bool g) ∧ w = w' ∧ (g = false → l.length ≤ 2000) := by
  have HQ : RowKit.Hid (∀ g, (g = false → l.length ≤ 2000) → (fun (e : Ending) w' => ∃ g, e = .returned (.bool g) ∧ w = w' ∧ (g = false → l.length ≤ 2000)) (.returned (.bool g)) w) := Lib.hid fun g h => ⟨g, rfl, rfl, h⟩
  generalize (fun (e : Ending) w' => ∃ g, e = .returned (.bool g) ∧ w = w' ∧ (g = false → l.length ≤ 2000)) = Q at *
  have HR := Lib.hid hr
  have HS := Lib.hid hs
  have hl := hs.1
  obtain ⟨va, vcap, rfl, hvc⟩ := hr.slice
  clear hr hs
  go_enter Tryz.func11, Tryz.ntmps11
  go_wp2_with fail
  go_loopw [3, 4] (fun n i wr => ∃ (a k : Nat), n = .int .i64 (a : Int) ∧ i = .int .i64 (k : Int) ∧ a ≤ 2097152 ∧ l.length ≤ a ∧ k ≤ l.length ∧ w = wr) (fun _ i _ => l.length - (intOf i).toNat)
  case atStart => exact ⟨l.length, 0, rfl, rfl, by omega, Nat.le_refl _, Nat.zero_le _, rfl⟩
  case round =>
    obtain ⟨a, k, rfl, rfl, ha, hla, hk, rfl⟩ := hrel
    by_cases hlt : k < l.length
    · have hkl : (k : Int) < l.length := by omega
      by_cases hg : a ≤ 2000
      · have hgi : (a : Int) ≤ 2000 := by omega
        obtain ⟨b1, o1, rfl, _, _, _, hc1⟩ := HR.out.at (Below.refl _ _) (show 0 < l.length by omega)
        obtain ⟨d0, d1, d2⟩ := hc1 k hlt
        have hk0 : (0 : Int) ≤ k := by omega
        have hkc : (k : Int) < vcap := by omega
        have hz := (HS.out.2 _ (List.getElem_mem hlt)).2
        have hwk : IntKind.i64.wrap ((k : Int) + 1) = (k : Int) + 1 := by rw [IntKind.wrap_i64]; omega
        have hwa : IntKind.i64.wrap ((a : Int) + ((l[k]).2.2.size : Int)) = (a : Int) + ((l[k]).2.2.size : Int) := by rw [IntKind.wrap_i64]; omega
        clear hc1 d0 d1
        generalize (l[k]).2.2 = x at *
        go_wp2_with fail
        go_round
        case rel => exact ⟨a + x.size, k + 1, by go_num, by go_num, by omega, by omega, by omega, (by first | rfl | trivial)⟩
        case measure => simp [intOf]; omega
      · have hgi : ¬ (a : Int) ≤ 2000 := by omega
        have hgj : (2000 : Int) < (a : Int) := by omega
        have HX := Lib.hid (HQ.out true (fun h => by cases h))
        go_wp2_with fail
        exact HX.out
    · have hkl : ¬ (k : Int) < l.length := by omega
      have HX := Lib.hid (HQ.out (decide ((2000 : Int) < (a : Int))) (fun h => by have := of_decide_eq_false h; omega))
      go_wp2_with fail
      exact HX.out
end Go.Proofs.YtpjglenogifclaaGreatDoor
namespace Go.Proofs.YtpjglenogifclaaGreatDoor
set_option linter.all false
open Go.RowKit

structure Held (w : World) : Prop where
  T : Tabs w
  M : MaxC w
  E : ErrC w
  P : Lib.TabIs Tryz.prog w "internal/strconv.uint64pow10" .u64 Lib.pow10Tab
theorem Held.below {w w' : World} (h : Held w) (hb : Below w.heap.size w w') : Held w' := ⟨h.T.below hb, h.M.below hb, h.E.below hb, Lib.tabBelow_of_tabIs h.P w' hb⟩
theorem fixed11 (w : World) (h : Held w) : Calls Tryz.prog 12 #[] w fun e w' => e = .returned (.bool true) ∧ Below w.heap.size w w' := law_fixed w h.T h.M h.E h.P
/-- A statement's answer. -/
@[irreducible] def Answers (w : World) (e : Ending) (w' : World) : Prop := e = .returned (.bool true) ∧ Below w.heap.size w w'
theorem Answers.mk {w w' : World} (h : Below w.heap.size w w') : Answers w (.returned (.bool true)) w' := by unfold Answers; exact ⟨rfl, h⟩
theorem Answers.out {w w' : World} {e : Ending} (h : Answers w e w') : e = .returned (.bool true) ∧ Below w.heap.size w w' := by unfold Answers at h; exact h
theorem Small.two {l : List Prt} (h : Small l) : ∀ p ∈ l, p.1 < 256 ∧ p.2.2.size ≤ 2147483647 := h.fine
end Go.Proofs.YtpjglenogifclaaGreatDoor
