/- The statements' helper 'same' of layer 1: are two lists of numbers alike? -/
import Derived.Test.YtfgchnhjboehpaaDoorCore
import Derived.Deep.QuietTactic
import Derived.BigQuiet
namespace Go.Proofs.YtfgchnhjboehpaaDoor
open Go.RowKit

theorem below_drewN {B : Nat} {a w : World} (h : Below B a w) (n : Nat) : Below B a (w.drewN n) := ⟨h.os, h.tape, h.output, h.size, h.block⟩
theorem same_no (a b : List Int) (i : Nat) (h1 : i < a.length) (h2 : i < b.length) (h : a[i] ≠ b[i]) : (a == b) = false := by
  rw [beq_eq_false_iff_ne]
  intro e; subst e; exact h rfl
theorem take_eq_next (a b : List Int) (i : Nat) (h1 : i < a.length) (h2 : i < b.length) (h : a.take i = b.take i) (h3 : a[i] = b[i]) : a.take (i + 1) = b.take (i + 1) := by
  rw [List.take_succ_eq_append_getElem h1, List.take_succ_eq_append_getElem h2, h, h3]
set_option maxHeartbeats 1000000 in
theorem law01_same (va vb : Value) (la lb : List Int) (w : World) (ha : RowInts w va .i32 la) (hb : RowInts w vb .i64 lb)
    (h32 : ∀ x ∈ la, -2147483648 ≤ x ∧ x ≤ 2147483647) (hn : la.length ≤ 4611686018427387904) :
    Calls Tryd.prog 25 #[va, vb] w fun e w' => e = .returned (.bool (la == lb)) ∧ Below w.heap.size w w' := by
  obtain ⟨aa, acap, rfl, hac, hacell⟩ := ha.open'
  obtain ⟨ab, bcap, rfl, hbc, hbcell⟩ := hb.open'
  have HAC := Lib.hid hacell; have HBC := Lib.hid hbcell; have H32 := Lib.hid h32
  clear hacell hbcell ha hb h32
  by_cases hl : la.length = lb.length
  · have hl1 : ((la.length : Int) != (lb.length : Int)) = false := by simp [hl]
    have HL := Lib.hid hl
    clear hl
    go_enter Tryd.func25, Tryd.ntmps25
    go_wp2_with fail
    go_loopw [5] (fun i wr => ∃ k : Nat, k ≤ la.length ∧ i = .int .i64 k ∧ la.take k = lb.take k ∧ Below w.heap.size w wr) (fun i _ => la.length - (intOf i).toNat)
    case atStart => exact ⟨0, Nat.zero_le _, rfl, rfl, Below.refl _ _⟩
    case round =>
      obtain ⟨k, hk, rfl, htk, hbel⟩ := hrel
      have HT := Lib.hid htk
      clear htk
      by_cases hlt : k < la.length
      · have hlt2 : k < lb.length := by have := HL.out; omega
        obtain ⟨ba, offa, rfl, hba, hca⟩ := HAC.out (by omega)
        obtain ⟨bb, offb, rfl, hbb, hcb⟩ := HBC.out (by omega)
        have h1 := (hbel.cell (p := ⟨ba, offa + k, none⟩) hba).trans (hca k hlt)
        have h2 := (hbel.cell (p := ⟨bb, offb + k, none⟩) hbb).trans (hcb k hlt2)
        have hr := H32.out la[k] (List.getElem_mem hlt)
        have hnx := take_eq_next la lb k hlt hlt2 HT.out
        have hno := same_no la lb k hlt hlt2
        clear hca hcb
        generalize la[k] = x at *
        generalize lb[k] = y at *
        have HNX := Lib.hid hnx; have HNO := Lib.hid hno
        have hwr : IntKind.i64.wrap x = x := IntWalk.i64_in _ (by omega)
        have hlk : (k : Int) < la.length := by omega
        have hlk2 : (k : Int) < lb.length := by omega
        clear hnx hno
        go_wp2_with fail
        go_quiet (fail)
        go_wp2_with fail
        · have hxy : (x != y) = true := by assumption
          go_ret
          exact ⟨ret_bool (HNO.out (by simpa using hxy)).symm, below_drewN hbel _⟩
        · have hxy : (x != y) = false := by assumption
          go_roundw
          case rel => exact ⟨k + 1, by omega, by go_num, HNX.out (by simpa using hxy), below_drewN hbel _⟩
          case measure => simp [intOf]; omega
      · have hll := HL.out
        have e1 : la = lb := by
          have h1 := HT.out
          rwa [List.take_of_length_le (by omega), List.take_of_length_le (by omega)] at h1
        have E1 := Lib.hid e1
        clear e1 hll
        go_wp2_with fail
        go_ret
        exact ⟨ret_bool (by rw [E1.out]; simp), hbel⟩
  · have hl1 : ((la.length : Int) != (lb.length : Int)) = true := by simp; omega
    have HL := Lib.hid (show (la == lb) = false by rw [beq_eq_false_iff_ne]; intro e; exact hl (by rw [e]))
    clear hl
    go_enter Tryd.func25, Tryd.ntmps25
    go_wp2_with fail
    go_ret
    exact ⟨ret_bool HL.out.symm, Below.refl _ _⟩
end Go.Proofs.YtfgchnhjboehpaaDoor
