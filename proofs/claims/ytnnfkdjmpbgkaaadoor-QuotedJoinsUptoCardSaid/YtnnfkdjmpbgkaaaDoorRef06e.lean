/- Layer 6: the reference's Begun, walked: raw strings and characters. -/
import Derived.Test.YtnnfkdjmpbgkaaaDoorRef06d
namespace Go.Proofs.YtnnfkdjmpbgkaaaDoor
set_option linter.all false
open Go.RowKit
attribute [local irreducible] wpStill

theorem raw_end {s : ByteArray} {i : Nat} (h : ¬ i < s.size) : raw s i = none := by unfold raw; rw [if_neg h]
theorem raw_mark {s : ByteArray} {i : Nat} (h : i < s.size) (hc : bt s i = 96) : raw s i = some (i + 1, []) := by unfold raw; rw [if_pos h, if_pos hc]
theorem raw_next {s : ByteArray} {i : Nat} (h : i < s.size) (hc : bt s i ≠ 96) : raw s i = (raw s (i + 1)).map fun p => (p.1, (if bt s i = 13 then [] else [(bt s i : Int)]) ++ p.2) := by rw [raw, if_pos h, if_neg hc]
def rawInv (s : ByteArray) (i : Nat) (w : World) (v k : Value) (wr : World) : Prop :=
  ∃ (j : Nat) (l : List Int), k = .int .i64 j ∧ j ≤ s.size ∧ i + 1 ≤ j ∧ l.length ≤ j ∧ Below w.heap.size w wr ∧ wr.ownsRow w.heap.size 5 1 v l.length (l.map (Value.int .u8)) ∧ raw s (i + 1) = (raw s j).map fun p => (p.1, l ++ p.2)
set_option maxRecDepth 100000 in
set_option maxHeartbeats 4000000 in
theorem ref_Begun96 (s : ByteArray) (i : Nat) (hi : i < s.size) (hm : bt s i = 96) (hs : s.size ≤ 2147483647) (w : World) :
    Calls Tryd.prog 20 #[.string s, .int .i64 i] w (rbegunPost s i w) := by
  have HQN : RowKit.Hid (∀ w', raw s (i + 1) = none → Below w.heap.size w w' → rbegunPost s i w (.returned (.tuple #[.int .u8 0, .int .i64 0, .string ⟨#[]⟩, .int .i64 4])) w') := Lib.hid fun w' h1 h2 => by
    unfold rbegunPost; rw [begun_raw hi hm, h1]; exact ⟨rfl, h2⟩
  have HQS : RowKit.Hid (∀ (j : Nat) l w', raw s (i + 1) = some (j, l) → Below w.heap.size w w' → rbegunPost s i w (.returned (.tuple #[.int .u8 7, .int .i64 j, .string (strOfNums l), .int .i64 0])) w') := Lib.hid fun j l w' h1 h2 => by
    unfold rbegunPost; rw [begun_raw hi hm, h1]; exact ⟨rfl, h2⟩
  generalize rbegunPost s i w = Q at *
  have hi' : (i : Int) < s.size := by omega
  have hi0 : (0 : Int) ≤ i := by omega
  have hxx : ∀ h, ((s[i]'h).toNat : Int) = 96 := fun h => by rw [bt_at s i h, hm]; rfl
  have hw1 : IntKind.i64.wrap ((i : Int) + 1) = ((i + 1 : Nat) : Int) := by rw [IntKind.wrap_i64]; omega
  have hnn1 : ¬ s.size ≤ i := by omega
  have hnn2 : ¬ (i : Int) < 0 := by omega
  go_enter Tryd.func20, Tryd.ntmps20
  go_wp2_with fail
  go_loopw [9, 10] (fun v k wr => rawInv s i w v k wr) (fun _ k _ => s.size - (intOf k).toNat)
  case atStart => exact ⟨i + 1, [], rfl, by omega, by omega, by simp, Below.refl _ _, World.ownsRow_nil _ _ _ _, by cases raw s (i + 1) <;> simp⟩
  case round =>
    obtain ⟨j, l, rfl, hj, hij, hl, hb, hown, hz⟩ := hrel
    have HB := Lib.hid hb
    have HO := Lib.hid hown
    have HZ := Lib.hid hz
    have hbase := hb.size
    obtain ⟨va, vm, vc, rfl⟩ := owns_slice HO.out
    clear hb hown hz
    by_cases hp : j < s.size
    · have hp' : (j : Int) < s.size := by omega
      have hj0 : (0 : Int) ≤ j := by omega
      have hbl := bt_lt s j
      have hyy : ∀ h, ((s[j]'h).toNat : Int) = (bt s j : Int) := fun h => by rw [bt_at s j h]
      have hwj : IntKind.i64.wrap ((j : Int) + 1) = ((j + 1 : Nat) : Int) := by rw [IntKind.wrap_i64]; omega
      by_cases hc : bt s j = 96
      · have hcc : (bt s j : Int) = 96 := by omega
        have hz2 : raw s (i + 1) = some (j + 1, l) := by rw [HZ.out, raw_mark hp hc]; simp
        have HZ2 := Lib.hid hz2
        have hcv : ∀ n, (convert 32 9 (.slice va vm vc)).run Tryd.prog (wr.drewN n) = .ok (.string (strOfNums l)) (wr.drewN n) := fun n => conv_owned (w := wr.drewN n) HO.out
        have HBN : RowKit.Hid (∀ n, Below w.heap.size w (wr.drewN n)) := Lib.hid fun n => bdrewN HB.out n
        clear hz2
        generalize bt s j = c at *
        go_wp2_with fail
        go_quiet (fail)
        go_wp2_with fail
        refine bodyPost_ret (results_tmp4 rfl _ _ _) rfl ?_
        exact HQS.out _ _ _ HZ2.out (HBN.out _)
      · have hcc : ¬ (bt s j : Int) = 96 := by omega
        have hcb : ((bt s j : Int) == 96) = false := by rw [beq_eq_false_iff_ne]; exact hcc
        have hz2 := raw_next hp hc
        have HZ2 := Lib.hid hz2
        clear hz2
        by_cases h13 : bt s j = 13
        · have h13' : (bt s j : Int) = 13 := by omega
          rw [if_pos h13] at HZ2
          have HR : RowKit.Hid (rawInv s i w (.slice va vm vc) (.int .i64 (j + 1 : Nat)) wr) := Lib.hid ⟨j + 1, l, rfl, by omega, by omega, by omega, HB.out, HO.out, by rw [HZ.out, HZ2.out]; cases raw s (j + 1) <;> simp⟩
          generalize bt s j = c at *
          go_wp2_with fail
          refine ⟨?_, (by simp [intOf]; try omega)⟩
          first
            | exact HR.out
            | (repeat apply Exists.intro
               refine ⟨?_, rfl⟩
               exact HR.out)
        · have h13' : ¬ (bt s j : Int) = 13 := by omega
          have h13b : ((bt s j : Int) == 13) = false := by rw [beq_eq_false_iff_ne]; exact h13'
          rw [if_neg h13] at HZ2
          have hz5 : raw s (i + 1) = (raw s (j + 1)).map fun p => (p.1, (l ++ [(bt s j : Int)]) ++ p.2) := by rw [HZ.out, HZ2.out]; cases raw s (j + 1) <;> simp
          have HZ5 := Lib.hid hz5
          clear hz5 HZ2
          generalize bt s j = c at *
          go_wp2_with (at_builtin; refine wpList_append_lit wr #[.int .u8 (c : Int)] _ rfl _ _ 32 5 rfl Tryd.underlying32 w.heap.size info_u8 rfl (by decide) _ _ _ rfl HO.out 1 1 rfl rfl (by decide) (by intro u hu; simp at hu; subst hu; rfl) (by omega) (by omega) hbase ?_)
          intro v' w' hown hgr _
          have hb4 := grown_below HB.out hbase HO.out hgr
          have HR : RowKit.Hid (rawInv s i w v' (.int .i64 (j + 1 : Nat)) w') := Lib.hid ⟨j + 1, l ++ [(c : Int)], rfl, by omega, by omega, by rw [List.length_append]; simp; omega, hb4, by rw [List.length_append, List.map_append]; exact hown, HZ5.out⟩
          clear hb4 hown hgr
          go_wp2_with fail
          refine ⟨?_, (by simp [intOf]; try omega)⟩
          first
            | exact HR.out
            | (repeat apply Exists.intro
               refine ⟨?_, rfl⟩
               exact HR.out)
    · have hp' : ¬ (j : Int) < s.size := by omega
      have HN : RowKit.Hid (raw s (i + 1) = none) := Lib.hid (by rw [HZ.out, raw_end hp]; rfl)
      go_wp2_with fail
      refine bodyPost_ret (results_tmp4 rfl _ _ _) rfl ?_
      exact HQN.out _ HN.out HB.out
end Go.Proofs.YtnnfkdjmpbgkaaaDoor
