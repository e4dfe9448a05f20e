/- Layer 6: the law's hex, walked. -/
import Derived.Test.YtnnfkdjmpbgkaaaDoorLaw06
import Derived.Test.YtnnfkdjmpbgkaaaDoorQuotedL3
namespace Go.Proofs.YtnnfkdjmpbgkaaaDoor
set_option linter.all false
open Go.RowKit
attribute [local irreducible] wpStill
theorem digs_at (k : Nat) (h : k < 16) (h' : k < (⟨#[48, 49, 50, 51, 52, 53, 54, 55, 56, 57, 97, 66, 99, 68, 101, 70]⟩ : ByteArray).size) :
    (((⟨#[48, 49, 50, 51, 52, 53, 54, 55, 56, 57, 97, 66, 99, 68, 101, 70]⟩ : ByteArray)[k]'h').toNat : Int) = digs.getD k 0 := by
  revert h'
  have : ∀ k, k < 16 → ∀ (h' : k < (⟨#[48, 49, 50, 51, 52, 53, 54, 55, 56, 57, 97, 66, 99, 68, 101, 70]⟩ : ByteArray).size), (((⟨#[48, 49, 50, 51, 52, 53, 54, 55, 56, 57, 97, 66, 99, 68, 101, 70]⟩ : ByteArray)[k]'h').toNat : Int) = digs.getD k 0 := by decide +kernel
  exact this k h
def hexRel (n : Nat) (w : World) (v0 v5 v6 : Value) (wr : World) : Prop :=
  ∃ k : Nat, v6 = .int .i64 k ∧ k ≤ 8 ∧ v0 = .int .i64 (n / 16 ^ k : Nat) ∧ v5 = .string (strOfNums (hexS k n)) ∧ Below w.heap.size w wr
set_option maxRecDepth 100000 in
set_option maxHeartbeats 4000000 in
theorem law06_hex (n : Nat) (hn : n < 4294967296) (w : World) :
    Calls Tryd.prog 18 #[.int .i64 n, .int .i64 8] w fun e w' => e = .returned (.string (strOfNums (hexS 8 n))) ∧ Below w.heap.size w w' := by
  have HQ : RowKit.Hid (∀ w', Below w.heap.size w w' → (fun (e : Ending) w' => e = .returned (.string (strOfNums (hexS 8 n))) ∧ Below w.heap.size w w') (.returned (.string (strOfNums (hexS 8 n)))) w') := Lib.hid fun w' h => ⟨rfl, h⟩
  generalize (fun (e : Ending) w' => e = .returned (.string (strOfNums (hexS 8 n))) ∧ Below w.heap.size w w') = Q at *
  go_enter Tryd.func18, Tryd.ntmps18
  go_wp2_with fail
  go_loopw [0, 5, 6] (fun v0 v5 v6 wr => hexRel n w v0 v5 v6 wr) (fun _ _ k _ => 8 - (intOf k).toNat)
  case atStart => exact ⟨0, rfl, by omega, by simp, rfl, Below.refl _ _⟩
  case round =>
    obtain ⟨k, rfl, hk, rfl, rfl, hb⟩ := hrel
    have HB := Lib.hid hb
    clear hb
    by_cases hlt : k < 8
    · have hlt' : (k : Int) < 8 := by omega
      have hwk : IntKind.i64.wrap ((k : Int) + 1) = ((k + 1 : Nat) : Int) := by rw [IntKind.wrap_i64]; omega
      have hm : n / 16 ^ k < 4294967296 := Nat.lt_of_le_of_lt (Nat.div_le_self _ _) hn
      have hdd : n / 16 ^ (k + 1) = n / 16 ^ k / 16 := by rw [Nat.pow_succ, Nat.div_div_eq_div_mul]
      have hS : hexS (k + 1) n = digs.getD (n / 16 ^ k % 16) 0 :: hexS k n := rfl
      have hlen := hexS_len k n
      generalize hM : n / 16 ^ k = m at *
      have hd := Nat.mod_lt m (show 0 < 16 by omega)
      obtain ⟨d, hd0⟩ : ∃ d, d = m % 16 := ⟨_, rfl⟩
      rw [← hd0] at hd hS
      have hmod : (m : Int).tmod 16 = d := by rw [Int.tmod_eq_emod_of_nonneg (by omega)]; omega
      obtain ⟨m2, hm2⟩ : ∃ m2, m2 = m / 16 := ⟨_, rfl⟩
      rw [← hm2] at hdd
      have hdiv : (m : Int).tdiv 16 = (m2 : Int) := by rw [Int.tdiv_eq_ediv_of_nonneg (by omega)]; omega
      have hdiv2 : (m : Int) / 16 = (m2 : Int) := by omega
      have hmod2 : (m : Int) % 16 = d := by omega
      have hwm : IntKind.i64.wrap (m2 : Int) = (m2 : Int) := by rw [IntKind.wrap_i64]; omega
      have hwd : IntKind.i64.wrap (d : Int) = d := by rw [IntKind.wrap_i64]; omega
      have hd1 : (0 : Int) ≤ d := by omega
      have hd2 : (d : Int) < 16 := by omega
      have c1 := conv_lit wr _ [digs.getD d 0] 1 1 rfl rfl
      simp only [List.map_cons, List.map_nil] at c1
      have hda := digs_at d hd
      have hcat : strOfNums (hexS (k + 1) n) = strOfNums [digs.getD d 0] ++ strOfNums (hexS k n) := by rw [hS, ← strOfNums_append]; rfl
      have HCAT := Lib.hid hcat
      have hz1 : (strOfNums [digs.getD d 0]).size = 1 := by rw [strOfNums_size]; rfl
      have hz2 : (strOfNums (hexS k n)).size = k := by rw [strOfNums_size]; exact hlen
      have hz3 : ¬ 9223372036854775807 < (strOfNums [digs.getD d 0]).size + (strOfNums (hexS k n)).size := by omega
      have hz4 : (strOfNums [digs.getD d 0]).size + (strOfNums (hexS k n)).size ≤ 9223372036854775807 := by omega
      have HR := Lib.hid (fun (wx : World) (hb : Below w.heap.size w wx) => (show hexRel n w (.int .i64 (m2 : Nat)) (.string (strOfNums [digs.getD d 0] ++ strOfNums (hexS k n))) (.int .i64 (k + 1 : Nat)) wx from ⟨k + 1, rfl, by omega, by rw [hdd], by rw [hcat], hb⟩))
      have HB2 := Lib.hid (HB.out.alloc HB.out.size (.cells #[.int .u8 (digs.getD d 0)] 5))
      clear hS hcat hd0 hM hdd hm2
      generalize strOfNums (hexS k n) = t at *
      generalize digs.getD d 0 = y at *
      go_wp2_with fail
      refine ⟨?_, (by simp [intOf]; try omega)⟩
      first
        | exact HR.out _ HB2.out
        | (repeat apply Exists.intro
           refine ⟨?_, rfl⟩
           exact HR.out _ HB2.out)
    · obtain rfl : k = 8 := by omega
      generalize strOfNums (hexS 8 n) = t at *
      go_wp2_with fail
      show Q (.returned (.string _)) _
      exact HQ.out _ HB.out
end Go.Proofs.YtnnfkdjmpbgkaaaDoor
