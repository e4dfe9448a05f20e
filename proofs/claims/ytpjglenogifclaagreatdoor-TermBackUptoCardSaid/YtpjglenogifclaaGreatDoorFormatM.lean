/- strconv.FormatUint in base ten, of a number below 256, walked. -/
import Derived.Test.YtpjglenogifclaaGreatDoorShelf
import Derived.Test.YtpjglenogifclaaGreatDoorCoreM
import Derived.Lib.AppendIntMem
import Derived.Lib.ItoaMem
import Derived.Lib.ItoaLen
import Derived.Laws.BytesArg
namespace Go.Proofs.YtpjglenogifclaaGreatDoor
set_option linter.all false
open Go.RowKit Go.Sort

set_option maxRecDepth 100000 in
set_option maxHeartbeats 16000000 in
theorem format_inner (u : Nat) (hu : u < 256) (w : World) (hP : Lib.TabIs Tryz.prog w "internal/strconv.uint64pow10" .u64 Lib.pow10Tab) :
    Calls Tryz.prog 86 #[.int .u64 (u : Int), .int .i64 10] w fun e w' => True ∧ e = .returned (.string ⟨(Lib.decDigits u).toArray⟩) ∧ Below w.heap.size w w' := by
  have HQ : RowKit.Hid (∀ w', Below w.heap.size w w' → (fun (e : Ending) w' => True ∧ e = .returned (.string ⟨(Lib.decDigits u).toArray⟩) ∧ Below w.heap.size w w') (.returned (.string ⟨(Lib.decDigits u).toArray⟩)) w') := Lib.hid fun w' hb => ⟨trivial, rfl, hb⟩
  generalize (fun (e : Ending) w' => True ∧ e = .returned (.string ⟨(Lib.decDigits u).toArray⟩) ∧ Below w.heap.size w w') = Q at *
  by_cases hc : u < 100
  · have hci : (u : Int) < 100 := by omega
    have C := Lib.hid (Tryz.internal_strconv_small u hc w)
    have HX := Lib.hid (HQ.out w (Below.refl _ _))
    clear hP hc
    go_enter Tryz.func86, Tryz.ntmps86
    go_wp2_with fail
    refine C.out.mono ?_
    rintro e w1 ⟨rfl, rfl⟩
    go_wp2_with fail
    exact HX.out
  · have hci : ¬ (u : Int) < 100 := by omega
    have hnd : Lib.nDigits u ≤ 20 := Lib.nDigits_le20 u (by omega)
    have CN := Lib.hid (Tryz.internal_strconv_numDigits u (by omega) (by omega) (w.alloc (.cells Lib.zeros24 97)) (Lib.tabIs_alloc hP _))
    have hH0 := Lib.holds_zero0 w 97 (Lib.nDigits u) (by omega)
    have hfmt := Tryz.internal_strconv_formatBase10 w.heap.size 0 24 u (Array.replicate (Lib.nDigits u) 0) (w.alloc (.cells Lib.zeros24 97)) hH0 (by rw [Array.size_replicate]; exact Lib.lt_pow_nDigits u) (by omega) (by rw [Array.size_replicate]; omega)
    rw [Array.size_replicate] at hfmt
    have HF := Lib.hid hfmt
    have HH0 := Lib.hid hH0
    have hal : Tryz.prog.arrayLen 97 = 24 := by kernel_rfl
    have hsl : ∀ W, (Instr.sliceAt 97 (.pointer (some ⟨w.heap.size, 0, none⟩)) none (some (.int .i64 (Lib.nDigits u : Int))) none).run Tryz.prog W = .ok (.slice (some ⟨w.heap.size, 0, none⟩) (Lib.nDigits u) 24) W := fun W => by
      rw [run_sliceAt_array_h W 97 ⟨w.heap.size, 0, none⟩ (by kernel_rfl) .i64 (Lib.nDigits u : Int) (by omega) (by rw [hal]; omega)]
      go_simp
    clear hfmt hH0 hal hP hc
    go_enter Tryz.func86, Tryz.ntmps86
    go_wp2_with fail
    refine CN.out.mono ?_
    rintro e w1 ⟨rfl, rfl⟩
    go_wp2_with fail
    refine HF.out.mono ?_
    rintro e w2 ⟨rfl, k, v', dk, rfl, hF⟩
    have hcv : (convert 56 9 (.slice (some ⟨w.heap.size, 0, none⟩) (Lib.nDigits u) 24)).run Tryz.prog ((putRow (fun (b : UInt8) => Value.int .u8 (b.toNat : Int)) (w.alloc (.cells Lib.zeros24 97)) w.heap.size 0 dk).drewN k) = .ok (.string (strOfNums ((Lib.decDigits u).map fun b => (b.toNat : Int)))) ((putRow (fun (b : UInt8) => Value.int .u8 (b.toNat : Int)) (w.alloc (.cells Lib.zeros24 97)) w.heap.size 0 dk).drewN k) := by
      refine run_convert_bytes_arg _ 56 5 Tryz.underlying56 Tryz.underlying5 _ 0 (Lib.nDigits u) 24 ((Lib.decDigits u).map fun b => (b.toNat : Int)) (by simp [Lib.decDigits_length]) (fun i hi => ?_) 9 Tryz.underlying9
      have hil : i < (Lib.decDigits u).length := by rw [Lib.decDigits_length]; exact hi
      have e5 : ((Lib.decDigits u).map fun b => (b.toNat : Int)).getD i 0 = ((Lib.decDigits u)[i].toNat : Int) := by simp [List.getD_eq_getElem?_getD, hil]
      rw [e5, Lib.row_is_numeral hF i hil, World.cell?_drewN]
      exact cell?_putRow (fun (b : UInt8) => Value.int .u8 (b.toNat : Int)) _ w.heap.size 0 _ dk HH0.out (by rw [hF.size, Array.size_replicate]) i (by rw [hF.size]; exact hi)
    have e6 : strOfNums ((Lib.decDigits u).map fun b => (b.toNat : Int)) = ⟨(Lib.decDigits u).toArray⟩ := by
      apply ByteArray.ext; apply Array.ext'
      rw [strOfNums_data, List.map_map]
      exact (List.map_congr_left (fun b _ => by simp)).trans (List.map_id _)
    rw [e6] at hcv
    obtain ⟨os, eo⟩ := Lib.fin_at w (.cells Lib.zeros24 97) dk k 0
    have hb : Below w.heap.size w ((putRow (fun (b : UInt8) => Value.int .u8 (b.toNat : Int)) (w.alloc (.cells Lib.zeros24 97)) w.heap.size 0 dk).drewN k) := by rw [eo]; exact Lib.below_grow _ w (Nat.le_refl _) k os
    have HX := Lib.hid (HQ.out _ hb)
    clear eo hb hF e6 HH0 HF
    generalize (putRow (fun (b : UInt8) => Value.int .u8 (b.toNat : Int)) (w.alloc (.cells Lib.zeros24 97)) w.heap.size 0 dk).drewN k = W2 at *
    go_wp2_with fail
    exact HX.out
set_option maxRecDepth 100000 in
theorem strconv_FormatUint (u : Nat) (hu : u < 256) (w : World) (hP : Lib.TabIs Tryz.prog w "internal/strconv.uint64pow10" .u64 Lib.pow10Tab) :
    Calls Tryz.prog 60 #[.int .u64 (u : Int), .int .i64 10] w fun e w' => e = .returned (.string ⟨(Lib.decDigits u).toArray⟩) ∧ Below w.heap.size w w' := by
  have HQ : RowKit.Hid (∀ w', Below w.heap.size w w' → (fun (e : Ending) w' => e = .returned (.string ⟨(Lib.decDigits u).toArray⟩) ∧ Below w.heap.size w w') (.returned (.string ⟨(Lib.decDigits u).toArray⟩)) w') := Lib.hid fun w' hb => ⟨rfl, hb⟩
  generalize (fun (e : Ending) w' => e = .returned (.string ⟨(Lib.decDigits u).toArray⟩) ∧ Below w.heap.size w w') = Q at *
  have C := Lib.hid (format_inner u hu w hP)
  clear hP
  go_enter Tryz.func60, Tryz.ntmps60
  go_wp2_with fail
  refine C.out.mono ?_
  rintro e w1 ⟨_, rfl, hb⟩
  have HX := Lib.hid (HQ.out w1 hb)
  clear hb C
  go_wp2_with fail
  exact HX.out
end Go.Proofs.YtpjglenogifclaaGreatDoor
