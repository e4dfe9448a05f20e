/- The statement TermWords, walked: the call returns true. -/
import Derived.Test.YtpjglenogifclaaGreatDoorFixPM
import Derived.Test.YtpjglenogifclaaGreatDoorAppEqM
namespace Go.Proofs.YtpjglenogifclaaGreatDoor
set_option linter.all false
attribute [local irreducible] Calls
open Go.RowKit

def noneP : Prt := (0, 0, ByteArray.empty)
def wordsL (k q : Nat) (x : ByteArray) (n : Nat) : List Prt := (k, (q : Int), x) :: List.replicate n noneP
theorem wordsL_len (k q : Nat) (x : ByteArray) (n : Nat) : (wordsL k q x n).length = n + 1 := by simp [wordsL]
theorem rows_none : ∀ n, rowsB (List.replicate n noneP) = some (List.replicate n 1)
  | 0 => rfl
  | n + 1 => by
    rw [List.replicate_succ, rowsB_cons (rows_none n) (by decide) (by show (0 : Int) ≤ _; omega)]
    rfl
theorem words_well (k q : Nat) (x : ByteArray) : wellB (wordsL k q x q) = true := by
  refine wellB_iff.2 ?_
  unfold wordsL
  rw [rowsB_cons (rows_none q) (by show (0 : Int) ≤ (q : Int); omega) (by show (q : Int) ≤ _; simp)]
  show some ((1 + ((List.replicate q 1).take (q : Int).toNat).sum) :: (List.replicate q 1).drop (q : Int).toNat) = _
  rw [Int.toNat_natCast, List.take_of_length_le (by simp), List.drop_of_length_le (by simp)]
  simp
  omega
theorem words_snoc (k q : Nat) (x : ByteArray) (n : Nat) : partsV (wordsL k q x n) ++ (#[Value.int .u8 0, .int .i64 0, .string ByteArray.empty] : Array Value).toList = partsV (wordsL k q x (n + 1)) := by
  have e : wordsL k q x (n + 1) = wordsL k q x n ++ [noneP] := by
    unfold wordsL
    rw [List.replicate_succ', List.cons_append]
  rw [e, partsV_append]; rfl
/-- What holds at the loop's head. -/
def woRel (w : World) (a q : Nat) (x : ByteArray) (o i : Value) (wr : World) : Prop :=
  ∃ k : Nat, i = .int .i64 (k : Int) ∧ k ≤ q ∧ wr.ownsRow w.heap.size 28 3 o (k + 1) (partsV (wordsL a q x k)) ∧ Below w.heap.size w wr
set_option maxRecDepth 100000 in
set_option maxHeartbeats 8000000 in
theorem TermWords_walk (kind : Int) (hk0 : 0 ≤ kind) (hk1 : kind < 256) (kids : Int) (hq0 : 0 ≤ kids) (hq1 : kids < 256) (x : ByteArray) (hx : x.size ≤ 1048576) (w : World) (hH : Held w) :
    Calls Tryz.prog 4 #[.int .u8 kind, .int .u8 kids, .string x] w (Answers w) := by
  have HQ : RowKit.Hid (∀ w', Below w.heap.size w w' → Answers w (.returned (.bool true)) w') := Lib.hid fun w' h => Answers.mk h
  generalize Answers w = Q at *
  have CF := Lib.hid (fun w' (hb : Below w.heap.size w w') => fixed11 w' (hH.below hb))
  obtain ⟨a, rfl⟩ : ∃ a : Nat, kind = (a : Int) := ⟨kind.toNat, by omega⟩
  obtain ⟨q, hq⟩ : ∃ q : Nat, kids % 7 = (q : Int) := ⟨(kids % 7).toNat, by omega⟩
  have hq6 : q ≤ 6 := by omega
  have HF := Lib.hid (show FineP (wordsL a q x q) from by
    intro p hp
    unfold wordsL at hp
    rcases List.mem_cons.1 hp with rfl | hp
    · exact ⟨by show a < 256; omega, by show x.size ≤ _; omega⟩
    · rw [(List.mem_replicate.1 hp).2]; exact ⟨by decide, by decide⟩)
  have C2 := Lib.hid (fun v w' hr' => term_Well (wordsL a q x q) (by rw [wordsL_len]; omega) v w' hr')
  have C4 := Lib.hid (fun v w' (hb : Below w.heap.size w w') hr' => term_Check (wordsL a q x q) (by rw [wordsL_len]; omega) HF.out v w' (hH.below hb).T (hH.below hb).M hr')
  have C5 := Lib.hid (fun v w' hr' => ref_Check11 (wordsL a q x q) (by rw [wordsL_len]; omega) HF.out v w' hr')
  clear hH
  by_cases hbig : 400 < x.size
  · have hbig' : (400 : Int) < x.size := by omega
    clear hq
    go_enter Tryz.func4, Tryz.ntmps4
    go_wp2_with fail
    refine (CF.out _ (Below.refl _ _)).mono ?_
    rintro e w4 ⟨rfl, hb4⟩
    have HX := Lib.hid (HQ.out w4 hb4)
    clear hb4
    go_wp2_with fail
    exact HX.out
  have hbig' : ¬ (400 : Int) < x.size := by omega
  have HB0 : RowKit.Hid (Below w.heap.size w (w.alloc (.cells #[.int .u8 (a : Int), .int .i64 (q : Int), .string x] 28))) := Lib.hid ((Below.refl _ _).alloc (Nat.le_refl _) _)
  have HO0 : RowKit.Hid ((w.alloc (.cells #[.int .u8 (a : Int), .int .i64 (q : Int), .string x] 28)).ownsRow w.heap.size 28 3 (.slice (some ⟨w.heap.size, 0, none⟩) 1 1) (0 + 1) (partsV (wordsL a q x 0))) := Lib.hid
    ⟨rfl, Or.inr ⟨w.heap.size, 1, _, rfl, Nat.le_refl _, heap_alloc_new _ _, Nat.le_refl _, by unfold maxLen; omega, rfl, rfl⟩⟩
  go_enter Tryz.func4, Tryz.ntmps4
  go_wp2_with fail
  generalize w.alloc (.cells #[.int .u8 (a : Int), .int .i64 (q : Int), .string x] 28) = w0 at *
  go_loopw [7, 8] (fun o i wr => woRel w a q x o i wr) (fun _ i _ => q - (intOf i).toNat)
  case atStart => exact ⟨0, rfl, Nat.zero_le _, HO0.out, HB0.out⟩
  case round =>
    obtain ⟨k, rfl, hk, ho, hb⟩ := hrel
    obtain ⟨o', w', hrun, ho', hg', _⟩ := append_lit_eq (P := Tryz.prog) wr #[.int .u8 0, .int .i64 0, .string ByteArray.empty] 28 22 22 28 Tryz.underlying22 w.heap.size Tinfo_part rfl (by decide) _ (k + 1) _ ho 1 1 rfl (Nat.le_refl _) (by intro u hu; simp at hu; rcases hu with rfl | rfl | rfl <;> rfl) (by omega) (by omega) hb.size
    rw [words_snoc] at ho'
    have HO1 := Lib.hid ho'
    have HB1 := Lib.hid (grown_keeps (hb.alloc hb.size _) (by have := hb.size; simp; omega) (ho.alloc _) hg')
    have HO := Lib.hid ho
    have HB := Lib.hid hb
    clear ho' hg' ho hb
    by_cases hlt : k < q
    · have hlt' : (k : Int) < q := by omega
      have hwk : IntKind.i64.wrap ((k : Int) + 1) = ((k + 1 : Nat) : Int) := by rw [IntKind.wrap_i64]; omega
      have HR : RowKit.Hid (woRel w a q x o' (.int .i64 ((k + 1 : Nat) : Int)) w') := Lib.hid ⟨k + 1, rfl, hlt, HO1.out, HB1.out⟩
      go_wp2_with (at_builtin; refine wpList_append_run rfl _ _ _ _ hrun rfl rfl rfl rfl ?_)
      refine ⟨?_, (by simp [intOf]; try omega)⟩
      first
        | exact HR.out
        | (repeat apply Exists.intro
           refine ⟨?_, rfl⟩
           exact HR.out)
    · have hlt' : ¬ (k : Int) < q := by omega
      obtain rfl : k = q := by omega
      clear hrun HO1 HB1
      have HR := Lib.hid (show PartRow wr _ (wordsL a k x k) from by have := Row.of_owns HO.out; rw [← wordsL_len a k x k] at this; exact this)
      obtain ⟨va, vcap, rfl, _⟩ := HR.out.slice
      have CF := Lib.hid (CF.out wr HB.out)
      go_wp2_with fail
      refine CF.out.mono ?_
      rintro e w4 ⟨rfl, hb4⟩
      have HB4 := Lib.hid (bthen HB.out hb4)
      have HR4 := Lib.hid (HR.out.below hb4)
      clear hb4
      go_wp2_with fail
      refine (C2.out _ w4 HR4.out).mono ?_
      rw [words_well]
      rintro e w5 ⟨rfl, hb5⟩
      have HB5 := Lib.hid (bthen HB4.out hb5)
      have HR5 := Lib.hid (HR4.out.below hb5)
      clear hb5
      go_wp2_with fail
      refine (C4.out _ w5 HB5.out HR5.out).mono ?_
      generalize (if checkB (wordsL a k x k) = true then (0 : Int) else 8) = b2 at *
      rintro e w6 ⟨rfl, hb6⟩
      have HB6 := Lib.hid (bthen HB5.out hb6)
      have HR6 := Lib.hid (HR5.out.below hb6)
      clear hb6
      go_wp2_with fail
      refine (C5.out _ w6 HR6.out).mono ?_
      rintro e w7 ⟨rfl, hb7⟩
      have HX := Lib.hid (HQ.out _ (bthen HB6.out hb7))
      clear hb7
      go_wp2_with fail
      exact HX.out
end Go.Proofs.YtpjglenogifclaaGreatDoor
