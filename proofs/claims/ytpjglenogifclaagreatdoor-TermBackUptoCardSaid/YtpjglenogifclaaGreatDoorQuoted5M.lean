/- Layer 6: the program's begun, walked. -/
import Derived.Test.YtpjglenogifclaaGreatDoorStillM
import Derived.Test.YtpjglenogifclaaGreatDoorQuotedPM
import Derived.Test.YtpjglenogifclaaGreatDoorShelf
import Derived.Laws.Strings3
namespace Go.Proofs.YtpjglenogifclaaGreatDoor
set_option linter.all false
open Go.RowKit
attribute [local irreducible] wpStill

/-- The cell of internal/bytealg.MaxLen holds some integer. -/
def MaxC (w : World) : Prop := ∃ m, w.cell? ⟨1, 0, none⟩ = some (.int .i64 m) ∧ 1 < w.heap.size
theorem MaxC.below {w w' : World} (h : MaxC w) (hb : Below w.heap.size w w') : MaxC w' := by
  obtain ⟨m, hm, hlt⟩ := h
  exact ⟨m, by rw [hb.cell (p := ⟨1, 0, none⟩) hlt]; exact hm, Nat.lt_of_lt_of_le hlt hb.size⟩
theorem mark_index : ∀ c, c < 256 → (decide (Lib.indexByte [39, 34, 96] (UInt8.ofNat c) < 0)) = !isMark c := by decide +kernel
theorem RS.fresh (w : World) (hT : Tabs w) (s : ByteArray) (i : Int) : RS (w.alloc (.cells #[.string s, .int .i64 i, .int .u8 0, .slice none 0 0, .bool false] 117 (0, 0))) w.heap.size s i 0 [] false := by
  refine ⟨hT.below ((Below.refl _ _).alloc (Nat.le_refl _) _), hT.2.1, hT.2.2, .slice none 0 0, ?_, ?_⟩
  · show (w.heap.push _)[w.heap.size]? = _
    rw [Array.getElem?_push_size]
  · exact ⟨rfl, Or.inl ⟨rfl, rfl⟩⟩
theorem results_tmp4 {fn : Func} {t u v x : Tmp} (h : fn.results = #[.tmp t, .tmp u, .tmp v, .tmp x]) (tmps : Array Value) (P : Program) (w : World) :
    (results fn tmps).run P w = .ok (.tuple #[tmps.getD t undef, tmps.getD u undef, tmps.getD v undef, tmps.getD x undef]) w := by
  simp [results, h]
def begunVals (q : Int × Int × ByteArray × Int) : Value := .tuple #[.int .u8 q.1, .int .i64 q.2.1, .string q.2.2.1, .int .i64 q.2.2.2]
theorem begun_out {s : ByteArray} {at' : Int} (h : at' < 0 ∨ (s.size : Int) ≤ at') : begun s at' = (0, 0, ByteArray.empty, 15) := by unfold begun; rw [if_pos h]
theorem begun_no {s : ByteArray} {i : Nat} (hm : isMark (bt s i) = false) : begun s i = (0, 0, ByteArray.empty, 15) := by
  unfold begun
  split
  · rfl
  · rw [Int.toNat_natCast, hm]; rfl
theorem begun_raw {s : ByteArray} {i : Nat} (hi : i < s.size) (hm : bt s i = 96) : begun s i = match raw s (i + 1) with
    | none => (0, 0, ByteArray.empty, 4)
    | some (e, l) => (7, e, strOfNums l, 0) := by
  unfold begun
  rw [if_neg (by omega), Int.toNat_natCast, hm, if_pos (by decide)]
  unfold begunAt
  rw [hm, if_pos rfl]
  cases raw s (i + 1) <;> rfl
theorem begun_read {s : ByteArray} {i : Nat} (hi : i < s.size) (hm : bt s i = 34 ∨ bt s i = 39) : begun s i = match loopZ s (bt s i) (i + 1) 0 with
    | none => (0, 0, ByteArray.empty, 4)
    | some (e, l) => (if bt s i = 34 then 7 else 6, e, strOfNums l, 0) := by
  have hM : isMark (bt s i) = true := by rcases hm with h | h <;> rw [h] <;> decide
  unfold begun
  rw [if_neg (by omega), Int.toNat_natCast, hM, if_pos rfl]
  unfold begunAt loopZ
  rcases hm with h | h
  · rw [h]; simp; cases body s (i + 1) <;> rfl
  · rw [h]; simp; cases single s (i + 1) <;> rfl
@[irreducible] def begunPost (s : ByteArray) (at' : Int) (w0 : World) (e : Ending) (w' : World) : Prop :=
  e = .returned (begunVals (begun s at')) ∧ Below w0.heap.size w0 w'
set_option maxRecDepth 100000 in
set_option maxHeartbeats 4000000 in
theorem quoted_begun (s : ByteArray) (at' : Int) (w0 : World) (hT : Tabs w0) (hM : MaxC w0) (hs : s.size ≤ 2147483647) :
    Calls Tryz.prog 68 #[.string s, .int .i64 at'] w0 (begunPost s at' w0) := by
  have HQ : RowKit.Hid (∀ k e v err w', Below w0.heap.size w0 w' → begun s at' = (k, e, v, err) → begunPost s at' w0 (.returned (.tuple #[.int .u8 k, .int .i64 e, .string v, .int .i64 err])) w') :=
    Lib.hid fun k e v err w' h1 h2 => by unfold begunPost; rw [h2]; exact ⟨rfl, h1⟩
  generalize begunPost s at' w0 = Q at *
  by_cases h0 : at' < 0
  · have hz := begun_out (s := s) (Or.inl h0)
    have HZ := Lib.hid hz
    clear hz
    go_enter Tryz.func68, Tryz.ntmps68
    go_wp2_with fail
    refine bodyPost_ret (results_tmp4 rfl _ _ _) rfl ?_
    exact HQ.out _ _ _ _ _ (Below.refl _ _) HZ.out
  · by_cases h1 : (s.size : Int) ≤ at'
    · have hz := begun_out (s := s) (Or.inr h1)
      have HZ := Lib.hid hz
      clear hz
      go_enter Tryz.func68, Tryz.ntmps68
      go_wp2_with fail
      refine bodyPost_ret (results_tmp4 rfl _ _ _) rfl ?_
      exact HQ.out _ _ _ _ _ (Below.refl _ _) HZ.out
    · obtain ⟨i, rfl⟩ : ∃ i : Nat, at' = i := ⟨at'.toNat, (Int.toNat_of_nonneg (by omega)).symm⟩
      have hi : i < s.size := by omega
      have hi' : (i : Int) < s.size := by omega
      have hi0 : (0 : Int) ≤ i := by omega
      have hbt := bt_at s i hi
      have hbl := bt_lt s i
      have CI' : ∀ w, Calls Tryz.prog 91 #[.string ⟨#[39, 34, 96]⟩, .int .u8 (bt s i : Int)] w fun e w' => e = .returned (.int .i64 (Lib.indexByte [39, 34, 96] (UInt8.ofNat (bt s i)))) ∧ w = w' := fun w => (Tryz.strings_IndexByte ⟨#[39, 34, 96]⟩ (bt s i : Int) w).mono fun e w' h => by
        refine ⟨?_, h.2.symm⟩
        rw [h.1]; simp
      have CI := Lib.hid CI'
      clear CI'
      have hmi := mark_index (bt s i) hbl
      by_cases hmk : isMark (bt s i) = true
      · have hlt : ¬ Lib.indexByte [39, 34, 96] (UInt8.ofNat (bt s i)) < 0 := by rw [hmk] at hmi; simpa using hmi
        generalize Lib.indexByte [39, 34, 96] (UInt8.ofNat (bt s i)) = x at *
        by_cases h96 : bt s i = 96
        · have HZ := Lib.hid (begun_raw hi h96)
          have h96' : (bt s i : Int) = 96 := by omega
          rw [h96'] at CI
          obtain ⟨m, hm, _⟩ := hM
          have hslA : ∀ w, (Instr.slice 9 (.string s) (some (.int .i64 ((i : Int) + 1))) none none).run Tryz.prog w = .ok (.string (s.extract (i + 1) s.size)) w := fun w => by
            rw [run_slice_string_from_if w _ s _ _ Tryz.underlying9, if_pos (by omega)]
            rfl
          have hw1 : IntKind.i64.wrap ((i : Int) + 1) = (i : Int) + 1 := by rw [IntKind.wrap_i64]; omega
          have hi1 : (i : Int) + 1 ≤ s.size := by omega
          have hi2 : (0 : Int) ≤ (i : Int) + 1 := by omega
          have hge := Lib.indexByte_ge (s.extract (i + 1) s.size).data.toList 96
          have hlt2 := index_small 96 (s.extract (i + 1) s.size).data.toList
          rw [← size_data, ByteArray.size_extract] at hlt2
          have hz := raw_prog s (i + 1)
          have CJ' : ∀ w, Calls Tryz.prog 91 #[.string (s.extract (i + 1) s.size), .int .u8 96] w fun e w' => e = .returned (.int .i64 (Lib.indexByte (s.extract (i + 1) s.size).data.toList 96)) ∧ w = w' := fun w => (Tryz.strings_IndexByte (s.extract (i + 1) s.size) 96 w).mono fun e w' h => ⟨h.1, h.2.symm⟩
          have CJ := Lib.hid CJ'
          clear CJ'
          generalize Lib.indexByte (s.extract (i + 1) s.size).data.toList 96 = y at *
          have HZZ := Lib.hid hz
          clear hz
          by_cases hy : y < 0
          · have HZ2 : RowKit.Hid (begun s i = (0, 0, ByteArray.empty, 4)) := Lib.hid (by rw [HZ.out, HZZ.out, if_pos hy])
            clear HZ HZZ
            generalize bt s i = c at *
            go_enter Tryz.func68, Tryz.ntmps68
            go_wp2_with fail
            refine (CI.out _).mono ?_; rintro e w' ⟨rfl, rfl⟩
            go_wp2_with fail
            refine (CJ.out _).mono ?_; rintro e w' ⟨rfl, rfl⟩
            go_wp2_with fail
            refine bodyPost_ret (results_tmp4 rfl _ _ _) rfl ?_
            exact HQ.out _ _ _ _ _ (Below.refl _ _) HZ2.out
          · obtain ⟨n, rfl⟩ : ∃ n : Nat, y = n := ⟨y.toNat, (Int.toNat_of_nonneg (by omega)).symm⟩
            have hn : i + 1 + n ≤ s.size := by omega
            rw [if_neg hy, Int.toNat_natCast] at HZZ
            have hsz : (s.extract (i + 1) (i + 1 + n)).size = n := by simp; omega
            have CR := Lib.hid (Tryz.strings_ReplaceAll (s.extract (i + 1) (i + 1 + n)) ⟨#[13]⟩ ⟨#[]⟩ m w0 (by rw [hsz]; omega) hm (by decide) (by
              rw [hsz]
              have e0 : (⟨#[]⟩ : ByteArray).size = 0 := rfl
              rw [e0, Nat.mul_zero]; omega))
            have HZ2 : RowKit.Hid (begun s i = (7, (i : Int) + n + 2, ⟨(Lib.replaceAll (s.extract (i + 1) (i + 1 + n)).data.toList [13] []).toArray⟩, 0)) := Lib.hid (by
              rw [HZ.out, HZZ.out]
              simp only [strOfNums_numsL]
              have e3 : ((i + 1 + n + 1 : Nat) : Int) = (i : Int) + n + 2 := by omega
              rw [e3])
            have hslB : ∀ w, (Instr.slice 9 (.string s) (some (.int .i64 ((i : Int) + 1))) (some (.int .i64 ((i : Int) + 1 + n))) none).run Tryz.prog w = .ok (.string (s.extract (i + 1) (i + 1 + n))) w := fun w => by
              rw [run_slice_string_if w _ s _ _ _ _ Tryz.underlying9, if_pos (by omega), if_pos (by omega)]
              rfl
            have hw2 : IntKind.i64.wrap ((i : Int) + 1 + n) = (i : Int) + 1 + n := by rw [IntKind.wrap_i64]; omega
            have hw3 : IntKind.i64.wrap ((i : Int) + n) = (i : Int) + n := by rw [IntKind.wrap_i64]; omega
            have hw4 : IntKind.i64.wrap ((i : Int) + n + 2) = (i : Int) + n + 2 := by rw [IntKind.wrap_i64]; omega
            have hb1 : (i : Int) + 1 + n ≤ s.size := by omega
            have hb2 : (0 : Int) ≤ (i : Int) + 1 + n := by omega
            have hb3 : (i : Int) + 1 ≤ (i : Int) + 1 + n := by omega
            clear HZ HZZ
            generalize bt s i = c at *
            rw [show (⟨#[13]⟩ : ByteArray).data.toList = [13] from rfl, show (⟨#[]⟩ : ByteArray).data.toList = [] from rfl] at CR
            generalize Lib.replaceAll (s.extract (i + 1) (i + 1 + n)).data.toList [13] [] = rl at *
            go_enter Tryz.func68, Tryz.ntmps68
            go_wp2_with fail
            refine (CI.out _).mono ?_; rintro e w' ⟨rfl, rfl⟩
            go_wp2_with fail
            refine (CJ.out _).mono ?_; rintro e w' ⟨rfl, rfl⟩
            go_wp2_with fail
            refine CR.out.mono ?_; rintro e w' ⟨rfl, hbw⟩
            go_wp2_with fail
            refine bodyPost_ret (results_tmp4 rfl _ _ _) rfl ?_
            exact HQ.out _ _ _ _ _ hbw HZ2.out
        · have hm2 : bt s i = 34 ∨ bt s i = 39 := by
            unfold isMark at hmk
            simp at hmk
            omega
          have HZ := Lib.hid (begun_read hi hm2)
          have h96' : ¬ (bt s i : Int) = 96 := by omega
          have HRD := Lib.hid (reader_read s w0.heap.size i _ (RS.fresh w0 hT s i) hi hm2 (by omega))
          have HM2 := Lib.hid hm2
          generalize hc : bt s i = c at *
          go_enter Tryz.func68, Tryz.ntmps68
          go_wp2_with fail
          refine (CI.out _).mono ?_; rintro e w' ⟨rfl, rfl⟩
          go_wp2_with fail
          refine HRD.out.mono ?_
          intro e w1 h1
          unfold readPost at h1
          obtain ⟨hb1, h1⟩ := h1
          have hbw : Below w0.heap.size w0 w1 := ((Below.refl _ _).alloc (Nat.le_refl _) _).trans hb1
          have HBW := Lib.hid hbw
          rw [hc] at h1
          cases hl : loopZ s c (i + 1) 0 with
          | none =>
            rw [hl] at h1 HZ
            subst h1
            go_wp2_with fail
            refine bodyPost_ret (results_tmp4 rfl _ _ _) rfl ?_
            exact HQ.out _ _ _ _ _ HBW.out HZ.out
          | some q =>
            obtain ⟨j, x⟩ := q
            rw [hl] at h1 HZ
            obtain ⟨rfl, hr⟩ := h1
            have c2 := hr.c2; have c1 := hr.c1
            obtain ⟨out, c3, ho⟩ := hr.c3
            have hcv : ∀ n, (convert 56 9 out).run Tryz.prog (w1.drewN n) = .ok (.string (strOfNums x)) (w1.drewN n) := fun n => conv_owned ho
            have HBN : RowKit.Hid (∀ n, Below w0.heap.size w0 (w1.drewN n)) := Lib.hid fun n => bdrewN HBW.out n
            clear hr ho hb1 hbw
            by_cases h34 : c = 34
            · have h34' : (c : Int) = 34 := by omega
              rw [if_pos h34] at HZ
              go_wp2_with fail
              go_quiet (fail)
              go_wp2_with fail
              refine bodyPost_ret (results_tmp4 rfl _ _ _) rfl ?_
              exact HQ.out _ _ _ _ _ (HBN.out _) HZ.out
            · have h34' : ¬ (c : Int) = 34 := by omega
              rw [if_neg h34] at HZ
              go_wp2_with fail
              go_quiet (fail)
              go_wp2_with fail
              refine bodyPost_ret (results_tmp4 rfl _ _ _) rfl ?_
              exact HQ.out _ _ _ _ _ (HBN.out _) HZ.out
      · have hmk' : isMark (bt s i) = false := by simpa using hmk
        have HZ := Lib.hid (begun_no hmk')
        have hlt : Lib.indexByte [39, 34, 96] (UInt8.ofNat (bt s i)) < 0 := by rw [hmk'] at hmi; simpa using hmi
        clear hmk hmk' hmi
        generalize bt s i = c at *
        generalize Lib.indexByte [39, 34, 96] (UInt8.ofNat c) = x at *
        go_enter Tryz.func68, Tryz.ntmps68
        go_wp2_with fail
        refine (CI.out _).mono ?_; rintro e w' ⟨rfl, rfl⟩
        go_wp2_with fail
        refine bodyPost_ret (results_tmp4 rfl _ _ _) rfl ?_
        exact HQ.out _ _ _ _ _ (Below.refl _ _) HZ.out
end Go.Proofs.YtpjglenogifclaaGreatDoor
namespace Go.Proofs.YtpjglenogifclaaGreatDoor
set_option linter.all false

theorem begun_body {s : ByteArray} {i : Nat} (hi : i < s.size) (hm : bt s i = 34) : begun s i = match body s (i + 1) with
    | none => (0, 0, ByteArray.empty, 4)
    | some (e, l) => (7, e, strOfNums l, 0) := by
  rw [begun_read hi (Or.inl hm), hm]
  unfold loopZ
  simp only [if_true]
  all_goals (cases body s (i + 1) <;> rfl)
theorem body_end {s : ByteArray} {i : Nat} (h : ¬ i < s.size) : body s i = none := by unfold body; rw [dif_neg h]
theorem body_mark {s : ByteArray} {i : Nat} (h : i < s.size) (hc : bt s i = 34) : body s i = some (i + 1, []) := by unfold body; rw [dif_pos h, if_pos hc]
theorem body_item {s : ByteArray} {i : Nat} (h : i < s.size) (hc : bt s i ≠ 34) : body s i = (item s i 34).bind fun q => (body s (i + q.1)).map fun p => (p.1, q.2 ++ p.2) := by
  have := loopZ_item (mark := 34) (k := 0) (Or.inl rfl) h hc
  unfold loopZ at this
  simpa using this
theorem raw_end {s : ByteArray} {i : Nat} (h : ¬ i < s.size) : raw s i = none := by unfold raw; rw [if_neg h]
theorem raw_mark {s : ByteArray} {i : Nat} (h : i < s.size) (hc : bt s i = 96) : raw s i = some (i + 1, []) := by unfold raw; rw [if_pos h, if_pos hc]
theorem raw_next {s : ByteArray} {i : Nat} (h : i < s.size) (hc : bt s i ≠ 96) : raw s i = (raw s (i + 1)).map fun p => (p.1, (if bt s i = 13 then [] else [(bt s i : Int)]) ++ p.2) := by rw [raw, if_pos h, if_neg hc]
theorem begun_single {s : ByteArray} {i : Nat} (hi : i < s.size) (hm : bt s i = 39) : begun s i = match single s (i + 1) with
    | none => (0, 0, ByteArray.empty, 4)
    | some (e, l) => (6, e, strOfNums l, 0) := by
  rw [begun_read hi (Or.inr hm), hm]
  unfold loopZ
  rw [if_neg (by decide), if_pos rfl]
  all_goals (cases single s (i + 1) <;> rfl)
theorem single_end {s : ByteArray} {i : Nat} (h : ¬ i < s.size) : single s i = none := by unfold single; rw [if_neg h]
theorem single_mark {s : ByteArray} {i : Nat} (h : i < s.size) (hc : bt s i = 39) : single s i = none := by unfold single; rw [if_pos h, if_pos hc]
theorem single_none {s : ByteArray} {i : Nat} (h : i < s.size) (hc : bt s i ≠ 39) (hit : item s i 39 = none) : single s i = none := by unfold single; rw [if_pos h, if_neg hc, hit]
theorem single_some {s : ByteArray} {i n : Nat} {l : List Int} (h : i < s.size) (hc : bt s i ≠ 39) (hit : item s i 39 = some (n, l)) : single s i = if i + n < s.size ∧ bt s (i + n) = 39 then some (i + n + 1, l) else none := by unfold single; rw [if_pos h, if_neg hc, hit]
end Go.Proofs.YtpjglenogifclaaGreatDoor
namespace Go.Proofs.YtpjglenogifclaaGreatDoor
set_option linter.all false

theorem num_right (x s : ByteArray) (b : Int) : ∀ (c i : Nat) (n : Int), num (x ++ s) b (x.size + i) c n = num s b i c n
  | 0, i, n => by rw [num, num]
  | c + 1, i, n => by
    rw [num, num, bt_right, ByteArray.size_append]
    by_cases h : i < s.size ∧ 0 ≤ base (bt s i) ∧ base (bt s i) < b
    · rw [if_pos h, if_pos ⟨by omega, h.2⟩, show x.size + i + 1 = x.size + (i + 1) by omega, num_right x s b c (i + 1)]
    · rw [if_neg h, if_neg (fun hh => h ⟨by omega, hh.2⟩)]
theorem esc_right (x s : ByteArray) (i mark : Nat) : esc (x ++ s) (x.size + i) mark = esc s i mark := by
  unfold esc
  rw [show x.size + i + 1 = x.size + (i + 1) by omega, bt_right, show x.size + i + 2 = x.size + (i + 2) by omega, num_right, num_right, num_right, ByteArray.size_append]
  by_cases h : s.size ≤ i + 1
  · rw [if_pos h, if_pos (by omega)]
  · rw [if_neg h, if_neg (by omega)]
theorem item_right (x s : ByteArray) (i mark : Nat) : item (x ++ s) (x.size + i) mark = item s i mark := by
  unfold item
  rw [bt_right, esc_right, rd_right]
  have e : ∀ n, (x ++ s).extract (x.size + i) (x.size + i + n) = s.extract i (i + n) := fun n => by
    apply ByteArray.ext
    apply Array.ext'
    rw [extract_data, extract_data, data_append, show x.size + i + n - (x.size + i) = n by omega, show i + n - i = n by omega, size_data x, List.drop_append, List.drop_of_length_le (by omega), List.nil_append, Nat.add_sub_cancel_left]
  rw [e]
theorem body_right (x s : ByteArray) (i : Nat) : body (x ++ s) (x.size + i) = (body s i).map fun p => (x.size + p.1, p.2) := by
  by_cases hi : i < s.size
  · by_cases hc : bt s i = 34
    · rw [body_mark hi hc, body_mark (by rw [ByteArray.size_append]; omega) (by rw [bt_right]; exact hc)]
      rfl
    · rw [body_item hi hc, body_item (by rw [ByteArray.size_append]; omega) (by rw [bt_right]; exact hc), item_right]
      cases hit : item s i 34 with
      | none => rfl
      | some q =>
        have hp := item_pos hi hit
        simp only [Option.bind_some]
        rw [show x.size + i + q.1 = x.size + (i + q.1) by omega, body_right x s (i + q.1)]
        cases body s (i + q.1) <;> rfl
  · rw [body_end hi, body_end (by rw [ByteArray.size_append]; omega)]
    rfl
termination_by s.size - i
decreasing_by omega
theorem num_left (s y : ByteArray) (b : Int) : ∀ (c i : Nat) (n m : Int), num s b i c n = some m → num (s ++ y) b i c n = some m
  | 0, i, n, m, h => by rw [num] at h ⊢; exact h
  | c + 1, i, n, m, h => by
    rw [num] at h ⊢
    by_cases hc : i < s.size ∧ 0 ≤ base (bt s i) ∧ base (bt s i) < b
    · rw [if_pos hc] at h
      rw [bt_left s y i hc.1, if_pos ⟨by rw [ByteArray.size_append]; omega, hc.2⟩]
      exact num_left s y b c (i + 1) _ m h
    · rw [if_neg hc] at h; cases h
theorem esc_left (s y : ByteArray) (i mark : Nat) (q : Nat × List Int) (h : esc s i mark = some q) : esc (s ++ y) i mark = some q := by
  have hsz : ¬ s.size ≤ i + 1 := fun hh => by unfold esc at h; rw [if_pos hh] at h; cases h
  unfold esc at h ⊢
  rw [if_neg hsz] at h
  rw [if_neg (by rw [ByteArray.size_append]; omega), bt_left s y (i + 1) (by omega)]
  split at h
  · rename_i h1; rw [if_pos h1]; exact h
  · rename_i h1
    rw [if_neg h1]
    split at h
    · rename_i h2; rw [if_pos h2]; exact h
    · rename_i h2
      rw [if_neg h2]
      split at h
      · rename_i h3
        rw [if_pos h3]
        cases hn : num s 16 (i + 2) 2 0 with
        | none => rw [hn] at h; cases h
        | some v => rw [hn] at h; rw [num_left s y 16 2 (i + 2) 0 v hn]; exact h
      · rename_i h3
        rw [if_neg h3]
        split at h
        · rename_i h4
          rw [if_pos h4]
          cases hn : num s 16 (i + 2) (if bt s (i + 1) = 85 then 8 else 4) 0 with
          | none => rw [hn] at h; cases h
          | some v => rw [hn] at h; rw [num_left s y 16 _ (i + 2) 0 v hn]; exact h
        · rename_i h4
          rw [if_neg h4]
          cases hn : num s 8 (i + 1) 3 0 with
          | none => rw [hn] at h; cases h
          | some v => rw [hn] at h; rw [num_left s y 8 3 (i + 1) 0 v hn]; exact h
theorem item_left (s y : ByteArray) (i mark : Nat) (hi : i < s.size) (q : Nat × List Int) (h : item s i mark = some q) : item (s ++ y) i mark = some q := by
  unfold item at h ⊢
  rw [bt_left s y i hi]
  split at h
  · rename_i h1; rw [if_pos h1]; exact esc_left s y i mark q h
  · rename_i h1
    rw [if_neg h1]
    split at h
    · cases h
    · rename_i h2
      rw [if_neg h2]
      split at h
      · rename_i h3; rw [if_pos h3]; exact h
      · rename_i h3
        rw [if_neg h3]
        split at h
        · cases h
        · rename_i h4
          rw [rd_left s y i hi h4, if_neg h4]
          have hw := rd_width s i
          have e : (s ++ y).extract i (i + (rd s i).2) = s.extract i (i + (rd s i).2) := by
            apply ByteArray.ext
            apply Array.ext'
            rw [extract_data, extract_data, data_append, List.drop_append_of_le_length (by rw [← size_data]; omega), List.take_append_of_le_length (by rw [List.length_drop, ← size_data]; omega)]
          rw [e]; exact h
theorem body_left (s y : ByteArray) (i : Nat) (p : Nat × List Int) (h : body s i = some p) : body (s ++ y) i = some p := by
  by_cases hi : i < s.size
  · by_cases hc : bt s i = 34
    · rw [body_mark hi hc] at h
      rw [body_mark (by rw [ByteArray.size_append]; omega) (by rw [bt_left s y i hi]; exact hc)]
      exact h
    · rw [body_item hi hc] at h
      rw [body_item (by rw [ByteArray.size_append]; omega) (by rw [bt_left s y i hi]; exact hc)]
      cases hit : item s i 34 with
      | none => rw [hit] at h; cases h
      | some q =>
        have hp := item_pos hi hit
        rw [hit, Option.bind_some] at h
        rw [item_left s y i 34 hi q hit, Option.bind_some]
        cases hb : body s (i + q.1) with
        | none => rw [hb] at h; cases h
        | some p2 =>
          rw [hb] at h
          rw [body_left s y (i + q.1) p2 hb]
          exact h
  · rw [body_end hi] at h; cases h
termination_by s.size - i
decreasing_by omega
theorem num_back (m y : ByteArray) (b : Int) : ∀ (c i : Nat) (n v : Int), i + c ≤ m.size → num (m ++ y) b i c n = some v → num m b i c n = some v
  | 0, i, n, v, _, h => by rw [num] at h ⊢; exact h
  | c + 1, i, n, v, hl, h => by
    rw [num] at h ⊢
    rw [bt_left m y i (by omega)] at h
    by_cases hc : 0 ≤ base (bt m i) ∧ base (bt m i) < b
    · rw [if_pos ⟨by rw [ByteArray.size_append]; omega, hc⟩] at h
      rw [if_pos ⟨by omega, hc⟩]
      exact num_back m y b c (i + 1) _ v (by omega) h
    · rw [if_neg (fun hh => hc hh.2)] at h; cases h
theorem esc_back (m y : ByteArray) (i mark n : Nat) (l : List Int) (h : esc (m ++ y) i mark = some (n, l)) (hl : i + n ≤ m.size) : esc m i mark = some (n, l) := by
  have hp := (esc_pos h).1
  unfold esc at h ⊢
  rw [if_neg (by rw [ByteArray.size_append]; omega), bt_left m y (i + 1) (by omega)] at h
  rw [if_neg (by omega)]
  split at h
  · rename_i h1; rw [if_pos h1]; exact h
  · rename_i h1
    rw [if_neg h1]
    split at h
    · rename_i h2; rw [if_pos h2]; exact h
    · rename_i h2
      rw [if_neg h2]
      split at h
      · rename_i h3
        rw [if_pos h3]
        cases hn : num (m ++ y) 16 (i + 2) 2 0 with
        | none => rw [hn] at h; cases h
        | some v =>
          rw [hn] at h
          have e : n = 4 := by cases h; rfl
          rw [num_back m y 16 2 (i + 2) 0 v (by omega) hn]; exact h
      · rename_i h3
        rw [if_neg h3]
        split at h
        · rename_i h4
          rw [if_pos h4]
          cases hn : num (m ++ y) 16 (i + 2) (if bt m (i + 1) = 85 then 8 else 4) 0 with
          | none => rw [hn] at h; cases h
          | some v =>
            rw [hn] at h
            have e : n = 2 + (if bt m (i + 1) = 85 then 8 else 4) := by
              rw [Option.bind_some] at h
              split at h
              · cases h; rfl
              · cases h
            rw [num_back m y 16 _ (i + 2) 0 v (by omega) hn]; exact h
        · rename_i h4
          rw [if_neg h4]
          cases hn : num (m ++ y) 8 (i + 1) 3 0 with
          | none => rw [hn] at h; cases h
          | some v =>
            rw [hn] at h
            have e : n = 4 := by
              rw [Option.bind_some] at h
              split at h
              · cases h
              · cases h; rfl
            rw [num_back m y 8 3 (i + 1) 0 v (by omega) hn]; exact h
theorem raw_lim (s : ByteArray) (i e : Nat) (l : List Int) (h : raw s i = some (e, l)) : i + 1 ≤ e ∧ e ≤ s.size := by
  by_cases hi : i < s.size
  · by_cases hc : bt s i = 96
    · rw [raw_mark hi hc] at h; cases h; omega
    · rw [raw_next hi hc] at h
      cases hb : raw s (i + 1) with
      | none => rw [hb] at h; cases h
      | some p =>
        obtain ⟨e2, l2⟩ := p
        rw [hb] at h
        have := raw_lim s (i + 1) e2 l2 hb
        simp only [Option.map_some, Option.some.injEq, Prod.mk.injEq] at h
        omega
  · rw [raw_end hi] at h; cases h
termination_by s.size - i
decreasing_by omega
theorem body_lim (s : ByteArray) (i e : Nat) (l : List Int) (h : body s i = some (e, l)) : i + 1 ≤ e ∧ e ≤ s.size := by
  by_cases hi : i < s.size
  · by_cases hc : bt s i = 34
    · rw [body_mark hi hc] at h; cases h; omega
    · rw [body_item hi hc] at h
      cases hit : item s i 34 with
      | none => rw [hit] at h; cases h
      | some q =>
        obtain ⟨n, l1⟩ := q
        have hp := item_pos hi hit
        rw [hit, Option.bind_some] at h
        cases hb : body s (i + n) with
        | none => rw [hb] at h; cases h
        | some p =>
          obtain ⟨e2, l2⟩ := p
          rw [hb] at h
          have := body_lim s (i + n) e2 l2 hb
          simp only [Option.map_some, Option.some.injEq, Prod.mk.injEq] at h
          omega
  · rw [body_end hi] at h; cases h
termination_by s.size - i
decreasing_by omega
theorem single_lim (s : ByteArray) (i e : Nat) (l : List Int) (h : single s i = some (e, l)) : i + 1 ≤ e ∧ e ≤ s.size := by
  by_cases hi : i < s.size
  · by_cases hc : bt s i = 39
    · rw [single_mark hi hc] at h; cases h
    · cases hit : item s i 39 with
      | none => rw [single_none hi hc hit] at h; cases h
      | some q =>
        obtain ⟨n, l1⟩ := q
        have hp := item_pos hi hit
        rw [single_some hi hc hit] at h
        split at h
        · simp only [Option.some.injEq, Prod.mk.injEq] at h; omega
        · cases h
  · rw [single_end hi] at h; cases h
theorem item_back (m y : ByteArray) (i mark n : Nat) (l : List Int) (hi : i < m.size) (h : item (m ++ y) i mark = some (n, l)) (hl : i + n ≤ m.size) : item m i mark = some (n, l) := by
  unfold item at h ⊢
  rw [bt_left m y i hi] at h
  split at h
  · rename_i h1; rw [if_pos h1]; exact esc_back m y i mark n l h hl
  · rename_i h1
    rw [if_neg h1]
    split at h
    · cases h
    · rename_i h2
      rw [if_neg h2]
      split at h
      · rename_i h3; rw [if_pos h3]; exact h
      · rename_i h3
        rw [if_neg h3]
        split at h
        · cases h
        · rename_i h4
          have hn : (rd (m ++ y) i).2 = n := by cases h; rfl
          have hr := rd_back m y i h4 (by omega)
          rw [hr, if_neg h4]
          have e : (m ++ y).extract i (i + (rd (m ++ y) i).2) = m.extract i (i + (rd (m ++ y) i).2) := by
            apply ByteArray.ext
            apply Array.ext'
            rw [extract_data, extract_data, data_append, List.drop_append_of_le_length (by rw [← size_data]; omega), List.take_append_of_le_length (by rw [List.length_drop, ← size_data]; omega)]
          rw [← e]; exact h
/-- A body that ends at a mark can be taken on with other bytes in the place of the mark. -/
theorem body_cut (a u u' : ByteArray) (i : Nat) (l : List Int) (h : body (a ++ u) i = some (a.size + 1, l)) :
    bt (a ++ u) a.size = 34 ∧ i ≤ a.size ∧ body (a ++ u') i = (body (a ++ u') a.size).map fun p => (p.1, l ++ p.2) := by
  by_cases hi : i < (a ++ u).size
  · by_cases hc : bt (a ++ u) i = 34
    · rw [body_mark hi hc] at h
      cases h
      refine ⟨hc, Nat.le_refl _, ?_⟩
      cases body (a ++ u') a.size <;> rfl
    · rw [body_item hi hc] at h
      cases hit : item (a ++ u) i 34 with
      | none => rw [hit] at h; cases h
      | some q =>
        obtain ⟨n, l1⟩ := q
        have hp := item_pos hi hit
        rw [hit, Option.bind_some] at h
        cases hb : body (a ++ u) (i + n) with
        | none => rw [hb] at h; cases h
        | some p2 =>
          obtain ⟨e2, l2⟩ := p2
          rw [hb] at h
          simp only [Option.map_some, Option.some.injEq, Prod.mk.injEq] at h
          obtain ⟨rfl, rfl⟩ := h
          obtain ⟨g1, g2, g3⟩ := body_cut a u u' (i + n) l2 hb
          have hia : i < a.size := by omega
          refine ⟨g1, by omega, ?_⟩
          rw [bt_left a u i hia] at hc
          have h3 := item_left a u' i 34 hia (n, l1) (item_back a u i 34 n l1 hia hit g2)
          rw [body_item (by rw [ByteArray.size_append]; omega) (by rw [bt_left a u' i hia]; exact hc), h3, Option.bind_some, g3]
          cases body (a ++ u') a.size with
          | none => rfl
          | some p => simp
  · rw [body_end hi] at h; cases h
termination_by (a ++ u).size - i
decreasing_by omega
theorem raw_cut (a u u' : ByteArray) (i : Nat) (l : List Int) (h : raw (a ++ u) i = some (a.size + 1, l)) :
    bt (a ++ u) a.size = 96 ∧ i ≤ a.size ∧ raw (a ++ u') i = (raw (a ++ u') a.size).map fun p => (p.1, l ++ p.2) := by
  by_cases hi : i < (a ++ u).size
  · by_cases hc : bt (a ++ u) i = 96
    · rw [raw_mark hi hc] at h
      cases h
      refine ⟨hc, Nat.le_refl _, ?_⟩
      cases raw (a ++ u') a.size <;> rfl
    · rw [raw_next hi hc] at h
      cases hb : raw (a ++ u) (i + 1) with
      | none => rw [hb] at h; cases h
      | some p2 =>
        obtain ⟨e2, l2⟩ := p2
        rw [hb] at h
        simp only [Option.map_some, Option.some.injEq, Prod.mk.injEq] at h
        obtain ⟨rfl, rfl⟩ := h
        obtain ⟨g1, g2, g3⟩ := raw_cut a u u' (i + 1) l2 hb
        have hia : i < a.size := by omega
        refine ⟨g1, by omega, ?_⟩
        rw [bt_left a u i hia] at hc
        rw [raw_next (by rw [ByteArray.size_append]; omega) (by rw [bt_left a u' i hia]; exact hc), g3, bt_left a u i hia, bt_left a u' i hia]
        cases raw (a ++ u') a.size with
        | none => rfl
        | some p => simp
  · rw [raw_end hi] at h; cases h
termination_by (a ++ u).size - i
decreasing_by omega
theorem raw_right (x s : ByteArray) (i : Nat) : raw (x ++ s) (x.size + i) = (raw s i).map fun p => (x.size + p.1, p.2) := by
  by_cases hi : i < s.size
  · by_cases hc : bt s i = 96
    · rw [raw_mark hi hc, raw_mark (by rw [ByteArray.size_append]; omega) (by rw [bt_right]; exact hc)]
      rfl
    · rw [raw_next hi hc, raw_next (by rw [ByteArray.size_append]; omega) (by rw [bt_right]; exact hc), show x.size + i + 1 = x.size + (i + 1) by omega, raw_right x s (i + 1), bt_right]
      cases raw s (i + 1) <;> rfl
  · rw [raw_end hi, raw_end (by rw [ByteArray.size_append]; omega)]
    rfl
termination_by s.size - i
decreasing_by omega
theorem single_right (x s : ByteArray) (i : Nat) : single (x ++ s) (x.size + i) = (single s i).map fun p => (x.size + p.1, p.2) := by
  by_cases hi : i < s.size
  · have hi2 : x.size + i < (x ++ s).size := by rw [ByteArray.size_append]; omega
    by_cases hc : bt s i = 39
    · rw [single_mark hi hc, single_mark hi2 (by rw [bt_right]; exact hc)]; rfl
    · have hc2 : bt (x ++ s) (x.size + i) ≠ 39 := by rw [bt_right]; exact hc
      have e := item_right x s i 39
      cases hit : item s i 39 with
      | none =>
        rw [hit] at e
        rw [single_none hi hc hit, single_none hi2 hc2 e]; rfl
      | some q =>
        obtain ⟨n, l⟩ := q
        rw [hit] at e
        rw [single_some hi hc hit, single_some hi2 hc2 e, show x.size + i + n = x.size + (i + n) by omega, bt_right, ByteArray.size_append]
        by_cases h : i + n < s.size ∧ bt s (i + n) = 39
        · rw [if_pos h, if_pos ⟨by omega, h.2⟩]; rfl
        · rw [if_neg h, if_neg (fun hh => h ⟨by omega, hh.2⟩)]; rfl
  · rw [single_end hi, single_end (by rw [ByteArray.size_append]; omega)]; rfl
theorem single_cut (a u u' : ByteArray) (i : Nat) (l : List Int) (h : single (a ++ u) i = some (a.size + 1, l)) :
    bt (a ++ u) a.size = 39 ∧ i ≤ a.size ∧ single (a ++ u') i = if u'.size ≠ 0 ∧ bt u' 0 = 39 then some (a.size + 1, l) else none := by
  by_cases hi : i < (a ++ u).size
  · by_cases hc : bt (a ++ u) i = 39
    · rw [single_mark hi hc] at h; cases h
    · cases hit : item (a ++ u) i 39 with
      | none => rw [single_none hi hc hit] at h; cases h
      | some q =>
        obtain ⟨n, l1⟩ := q
        have hp := item_pos hi hit
        rw [single_some hi hc hit] at h
        split at h
        · rename_i h2
          simp only [Option.some.injEq, Prod.mk.injEq] at h
          obtain ⟨h3, rfl⟩ := h
          have hn : i + n = a.size := by omega
          have hia : i < a.size := by omega
          rw [bt_left a u i hia] at hc
          have g := item_left a u' i 39 hia (n, l1) (item_back a u i 39 n l1 hia hit (by omega))
          refine ⟨by rw [← hn]; exact h2.2, by omega, ?_⟩
          rw [single_some (by rw [ByteArray.size_append]; omega) (by rw [bt_left a u' i hia]; exact hc) g, hn]
          have e := bt_right a u' 0
          rw [Nat.add_zero] at e
          rw [e, ByteArray.size_append]
          by_cases h5 : u'.size ≠ 0 ∧ bt u' 0 = 39
          · rw [if_pos h5, if_pos ⟨by omega, h5.2⟩]
          · rw [if_neg h5, if_neg (fun hh => h5 ⟨by omega, hh.2⟩)]
        · cases h
  · rw [single_end hi] at h; cases h
theorem begun_mark {s : ByteArray} {at' : Int} (h0 : 0 ≤ at') (h1 : at' < s.size) (hm : isMark (bt s at'.toNat) = true) : begun s at' = begunAt s at'.toNat := by
  unfold begun
  rw [if_neg (by omega), if_pos hm]
theorem begun_ok {s : ByteArray} {at' k e : Int} {v : ByteArray} (h : begun s at' = (k, e, v, 0)) : 0 ≤ at' ∧ at' < s.size ∧ isMark (bt s at'.toNat) = true := by
  unfold begun at h
  split at h
  · simp at h
  · split at h
    · exact ⟨by omega, by omega, by assumption⟩
    · simp at h
theorem begun_err (s : ByteArray) (at' : Int) (h : (begun s at').2.2.2 ≠ 0) : (begun s at').1 = 0 ∧ (begun s at').2.1 = 0 := by
  unfold begun at h ⊢
  split
  · exact ⟨rfl, rfl⟩
  · rename_i h1
    rw [if_neg h1] at h
    split
    · rename_i h2
      rw [if_pos h2] at h
      unfold begunAt at h ⊢
      split
      · rename_i h3
        rw [if_pos h3] at h
        cases hr : raw s (at'.toNat + 1) with
        | none => exact ⟨rfl, rfl⟩
        | some p => rw [hr] at h; exact absurd rfl h
      · rename_i h3
        rw [if_neg h3] at h
        split
        · rename_i h4
          rw [if_pos h4] at h
          cases hr : body s (at'.toNat + 1) with
          | none => exact ⟨rfl, rfl⟩
          | some p => rw [hr] at h; exact absurd rfl h
        · rename_i h4
          rw [if_neg h4] at h
          cases hr : single s (at'.toNat + 1) with
          | none => exact ⟨rfl, rfl⟩
          | some p => rw [hr] at h; exact absurd rfl h
    · exact ⟨rfl, rfl⟩
theorem value_ok {s v : ByteArray} (h : value s = (v, 0)) : ∃ k, begun s 0 = (k, (s.size : Int), v, 0) := by
  unfold value at h
  split at h
  · rename_i h1
    generalize begun s 0 = q at *
    obtain ⟨k, e, v', err⟩ := q
    simp only [] at h1 h
    obtain ⟨rfl, rfl⟩ := h1
    cases h
    exact ⟨k, rfl⟩
  · simp at h
theorem value_of {s v : ByteArray} {k : Int} (h : begun s 0 = (k, (s.size : Int), v, 0)) : value s = (v, 0) := by
  unfold value
  rw [h, if_pos ⟨rfl, rfl⟩]
theorem value_not {s : ByteArray} (h : (begun s 0).2.2.2 = 4) : value s = (ByteArray.empty, 4) := by
  unfold value
  rw [if_neg (fun hh => by rw [h] at hh; exact absurd hh.1 (by decide))]
theorem value_body {s v : ByteArray} (h : value s = (v, 0)) (hm : bt s 0 = 34) : 1 ≤ s.size ∧ ∃ l, body s 1 = some (s.size, l) ∧ v = strOfNums l := by
  obtain ⟨k, hk⟩ := value_ok h
  obtain ⟨_, h1, _⟩ := begun_ok hk
  have h2 : (0 : Nat) < s.size := by omega
  have h3 := begun_body h2 hm
  rw [show ((0 : Nat) : Int) = 0 by rfl, hk] at h3
  refine ⟨h2, ?_⟩
  rw [Nat.zero_add] at h3
  cases hb : body s 1 with
  | none => rw [hb] at h3; simp at h3
  | some p =>
    obtain ⟨e, l⟩ := p
    rw [hb] at h3
    simp only [Prod.mk.injEq] at h3
    refine ⟨l, ?_, h3.2.2.1⟩
    have : s.size = e := by omega
    rw [this]
theorem value_joins (a b va vb : ByteArray) (ha : value a = (va, 0)) (hb : value b = (vb, 0)) (ma : bt a 0 = 34) (mb : bt b 0 = 34) :
    value (a.extract 0 (a.size - 1) ++ b.extract 1 b.size) = (va ++ vb, 0) := by
  obtain ⟨sa, la, ba, rfl⟩ := value_body ha ma
  obtain ⟨sb, lb, bb, rfl⟩ := value_body hb mb
  have ea := cut_at a (a.size - 1) (by omega)
  have eb := cut_at b 1 sb
  have za : (a.extract 0 (a.size - 1)).size = a.size - 1 := by rw [ByteArray.size_extract]; omega
  have zb : (b.extract 0 1).size = 1 := by rw [ByteArray.size_extract]; omega
  have zb1 : (b.extract 1 b.size).size = b.size - 1 := by rw [ByteArray.size_extract]; omega
  generalize a.extract 0 (a.size - 1) = a' at *
  generalize a.extract (a.size - 1) a.size = a2 at *
  generalize b.extract 0 1 = b0 at *
  generalize b.extract 1 b.size = b1 at *
  have ba2 : body (a' ++ a2) 1 = some (a'.size + 1, la) := by rw [ea, ba, za]; congr 2; omega
  obtain ⟨g1, g2, g3⟩ := body_cut a' a2 b1 1 la ba2
  have bb2 : body (b0 ++ b1) (b0.size + 0) = some (b.size, lb) := by rw [eb, zb]; exact bb
  rw [body_right] at bb2
  have r := body_right a' b1 0
  rw [Nat.add_zero] at r
  rw [r] at g3
  have ha0 : 0 < a'.size := by omega
  have m0 : bt (a' ++ b1) 0 = 34 := by
    rw [bt_left a' b1 0 ha0, ← bt_left a' a2 0 ha0, ea]; exact ma
  have hsz : (a' ++ b1).size = a'.size + (b.size - 1) := by rw [ByteArray.size_append, zb1]
  have h4 := begun_body (s := a' ++ b1) (i := 0) (by omega) m0
  rw [Nat.zero_add] at h4
  cases hb1 : body b1 0 with
  | none => rw [hb1] at bb2; cases bb2
  | some p =>
    obtain ⟨e, l⟩ := p
    rw [hb1] at bb2 g3
    simp only [Option.map_some, Option.some.injEq, Prod.mk.injEq] at bb2 g3
    obtain ⟨h5, rfl⟩ := bb2
    rw [g3] at h4
    simp only [] at h4
    have h6 : a'.size + e = (a' ++ b1).size := by omega
    rw [h6, strOfNums_append] at h4
    exact value_of (k := 7) h4
/-- What is found at a place stands by itself, and not without its last mark. -/
theorem begun_found (s : ByteArray) (at' k e : Int) (v : ByteArray) (h : begun s at' = (k, e, v, 0)) :
    ∃ i n : Nat, at' = i ∧ e = n ∧ i + 2 ≤ n ∧ n ≤ s.size ∧ bt s i = bt s (n - 1) ∧ value (s.extract i n) = (v, 0) ∧ value (s.extract i (n - 1)) = (ByteArray.empty, 4) ∧ ((k = 6 ∧ bt s i = 39) ∨ (k = 7 ∧ bt s i ≠ 39)) := by
  obtain ⟨h0, h1, hm⟩ := begun_ok h
  rw [begun_mark h0 h1 hm] at h
  obtain ⟨i, rfl⟩ : ∃ i : Nat, at' = i := ⟨at'.toNat, by omega⟩
  rw [Int.toNat_natCast] at h hm
  have hi : i < s.size := by omega
  -- cut the text: x, the marked text without its last mark, the rest
  have hx := cut_at s i (by omega)
  have zx : (s.extract 0 i).size = i := by rw [ByteArray.size_extract]; omega
  have key : ∀ n : Nat, i + 2 ≤ n → n ≤ s.size → ∃ m u, s.extract i s.size = m ++ u ∧ s.extract i (n - 1) = m ∧ m.size = n - 1 - i ∧ u.size = s.size - (n - 1) ∧ s.extract i n = m ++ s.extract (n - 1) n ∧ (s.extract (n - 1) n).size = 1 ∧ bt (s.extract (n - 1) n) 0 = bt s (n - 1) := by
    intro n h2 h3
    refine ⟨s.extract i (n - 1), s.extract (n - 1) s.size, (extract_all s i (n - 1) s.size (by omega) (by omega)).symm, rfl, by rw [ByteArray.size_extract]; omega, by rw [ByteArray.size_extract]; omega, (extract_all s i (n - 1) n (by omega) (by omega)).symm, by rw [ByteArray.size_extract]; omega, ?_⟩
    unfold bt
    rw [get!_extract s (n - 1) n 0 (by omega) h3, Nat.add_zero]
  generalize s.extract 0 i = x at *
  have hbt : bt (s.extract i s.size) 0 = bt s i := by
    have := bt_right x (s.extract i s.size) 0
    rw [hx, zx, Nat.add_zero] at this
    exact this.symm
  have hbn : ∀ j, bt s (i + j) = bt (s.extract i s.size) j := by
    intro j
    have := bt_right x (s.extract i s.size) j
    rw [hx, zx] at this
    exact this
  have hsx : (s.extract i s.size).size = s.size - i := by rw [ByteArray.size_extract]; omega
  unfold begunAt at h
  by_cases h96 : bt s i = 96
  · rw [if_pos h96] at h
    cases hr : raw s (i + 1) with
    | none => rw [hr] at h; simp at h
    | some p =>
      obtain ⟨n, l⟩ := p
      rw [hr] at h
      simp only [Prod.mk.injEq] at h
      obtain ⟨rfl, rfl, rfl, _⟩ := h
      have rr := raw_right x (s.extract i s.size) 1
      rw [hx, zx, hr] at rr
      cases hr2 : raw (s.extract i s.size) 1 with
      | none => rw [hr2] at rr; cases rr
      | some p2 =>
        obtain ⟨n2, l2⟩ := p2
        rw [hr2] at rr
        simp only [Option.map_some, Option.some.injEq, Prod.mk.injEq] at rr
        obtain ⟨rfl, rfl⟩ := rr
        have hlim := raw_lim _ _ _ _ hr2
        obtain ⟨m, u, e1, e2, e3, e4, e5, e6, e7⟩ := key (i + n2) (by omega) (by omega)
        rw [e1] at hr2
        have en : n2 = m.size + 1 := by omega
        rw [en] at hr2
        obtain ⟨g1, g2, g3⟩ := raw_cut m u (s.extract (i + n2 - 1) (i + n2)) 1 l hr2
        obtain ⟨_, _, g4⟩ := raw_cut m u ByteArray.empty 1 l hr2
        have hlast : bt s (i + n2 - 1) = 96 := by
          rw [show i + n2 - 1 = i + m.size by omega, hbn, e1]; exact g1
        have r3 := raw_right m (s.extract (i + n2 - 1) (i + n2)) 0
        rw [Nat.add_zero, raw_mark (s := s.extract (i + n2 - 1) (i + n2)) (i := 0) (by omega) (by rw [e7]; exact hlast)] at r3
        rw [r3] at g3
        have m0 : bt m 0 = 96 := by rw [← bt_left m u 0 (by omega), ← e1, hbt]; exact h96
        refine ⟨i, i + n2, rfl, rfl, by omega, by omega, by rw [hlast, h96], ?_, ?_, Or.inr ⟨rfl, by omega⟩⟩
        · rw [e5]
          apply value_of (k := 7)
          rw [begun_mark (by omega) (by rw [ByteArray.size_append]; omega) (by rw [show (0 : Int).toNat = 0 by rfl, bt_left m _ 0 (by omega), m0]; rfl)]
          unfold begunAt
          rw [show (0 : Int).toNat = 0 by rfl, bt_left m _ 0 (by omega), if_pos m0, Nat.zero_add, g3, ByteArray.size_append, e6]
          simp
        · rw [e2]
          apply value_not
          rw [begun_mark (by omega) (by omega) (by rw [show (0 : Int).toNat = 0 by rfl, m0]; rfl)]
          unfold begunAt
          rw [ByteArray.append_empty] at g4
          rw [show (0 : Int).toNat = 0 by rfl, if_pos m0, Nat.zero_add, g4, raw_end (by omega)]
          rfl
  · rw [if_neg h96] at h
    by_cases h34 : bt s i = 34
    · rw [if_pos h34] at h
      cases hr : body s (i + 1) with
      | none => rw [hr] at h; simp at h
      | some p =>
        obtain ⟨n, l⟩ := p
        rw [hr] at h
        simp only [Prod.mk.injEq] at h
        obtain ⟨rfl, rfl, rfl, _⟩ := h
        have rr := body_right x (s.extract i s.size) 1
        rw [hx, zx, hr] at rr
        cases hr2 : body (s.extract i s.size) 1 with
        | none => rw [hr2] at rr; cases rr
        | some p2 =>
          obtain ⟨n2, l2⟩ := p2
          rw [hr2] at rr
          simp only [Option.map_some, Option.some.injEq, Prod.mk.injEq] at rr
          obtain ⟨rfl, rfl⟩ := rr
          have hlim := body_lim _ _ _ _ hr2
          obtain ⟨m, u, e1, e2, e3, e4, e5, e6, e7⟩ := key (i + n2) (by omega) (by omega)
          rw [e1] at hr2
          have en : n2 = m.size + 1 := by omega
          rw [en] at hr2
          obtain ⟨g1, g2, g3⟩ := body_cut m u (s.extract (i + n2 - 1) (i + n2)) 1 l hr2
          obtain ⟨_, _, g4⟩ := body_cut m u ByteArray.empty 1 l hr2
          have hlast : bt s (i + n2 - 1) = 34 := by
            rw [show i + n2 - 1 = i + m.size by omega, hbn, e1]; exact g1
          have r3 := body_right m (s.extract (i + n2 - 1) (i + n2)) 0
          rw [Nat.add_zero, body_mark (s := s.extract (i + n2 - 1) (i + n2)) (i := 0) (by omega) (by rw [e7]; exact hlast)] at r3
          rw [r3] at g3
          have m0 : bt m 0 = 34 := by rw [← bt_left m u 0 (by omega), ← e1, hbt]; exact h34
          have m96 : ¬ bt m 0 = 96 := by omega
          refine ⟨i, i + n2, rfl, rfl, by omega, by omega, by rw [hlast, h34], ?_, ?_, Or.inr ⟨rfl, by omega⟩⟩
          · rw [e5]
            apply value_of (k := 7)
            rw [begun_mark (by omega) (by rw [ByteArray.size_append]; omega) (by rw [show (0 : Int).toNat = 0 by rfl, bt_left m _ 0 (by omega), m0]; rfl)]
            unfold begunAt
            rw [show (0 : Int).toNat = 0 by rfl, bt_left m _ 0 (by omega), if_neg m96, if_pos m0, Nat.zero_add, g3, ByteArray.size_append, e6]
            simp
          · rw [e2]
            apply value_not
            rw [begun_mark (by omega) (by omega) (by rw [show (0 : Int).toNat = 0 by rfl, m0]; rfl)]
            unfold begunAt
            rw [ByteArray.append_empty] at g4
            rw [show (0 : Int).toNat = 0 by rfl, if_neg m96, if_pos m0, Nat.zero_add, g4, body_end (by omega)]
            rfl
    · rw [if_neg h34] at h
      have h39 : bt s i = 39 := by
        unfold isMark at hm
        simp at hm
        omega
      cases hr : single s (i + 1) with
      | none => rw [hr] at h; simp at h
      | some p =>
        obtain ⟨n, l⟩ := p
        rw [hr] at h
        simp only [Prod.mk.injEq] at h
        obtain ⟨rfl, rfl, rfl, _⟩ := h
        have rr := single_right x (s.extract i s.size) 1
        rw [hx, zx, hr] at rr
        cases hr2 : single (s.extract i s.size) 1 with
        | none => rw [hr2] at rr; cases rr
        | some p2 =>
          obtain ⟨n2, l2⟩ := p2
          rw [hr2] at rr
          simp only [Option.map_some, Option.some.injEq, Prod.mk.injEq] at rr
          obtain ⟨rfl, rfl⟩ := rr
          have hlim := single_lim _ _ _ _ hr2
          obtain ⟨m, u, e1, e2, e3, e4, e5, e6, e7⟩ := key (i + n2) (by omega) (by omega)
          rw [e1] at hr2
          have en : n2 = m.size + 1 := by omega
          rw [en] at hr2
          obtain ⟨g1, g2, g3⟩ := single_cut m u (s.extract (i + n2 - 1) (i + n2)) 1 l hr2
          obtain ⟨_, _, g4⟩ := single_cut m u ByteArray.empty 1 l hr2
          have hlast : bt s (i + n2 - 1) = 39 := by
            rw [show i + n2 - 1 = i + m.size by omega, hbn, e1]; exact g1
          rw [if_pos ⟨by omega, by rw [e7]; exact hlast⟩] at g3
          have m0 : bt m 0 = 39 := by rw [← bt_left m u 0 (by omega), ← e1, hbt]; exact h39
          have m96 : ¬ bt m 0 = 96 := by omega
          have m34 : ¬ bt m 0 = 34 := by omega
          refine ⟨i, i + n2, rfl, rfl, by omega, by omega, by rw [hlast, h39], ?_, ?_, Or.inl ⟨rfl, h39⟩⟩
          · rw [e5]
            apply value_of (k := 6)
            rw [begun_mark (by omega) (by rw [ByteArray.size_append]; omega) (by rw [show (0 : Int).toNat = 0 by rfl, bt_left m _ 0 (by omega), m0]; rfl)]
            unfold begunAt
            rw [show (0 : Int).toNat = 0 by rfl, bt_left m _ 0 (by omega), if_neg m96, if_neg m34, Nat.zero_add, g3, ByteArray.size_append, e6]
          · rw [e2]
            apply value_not
            rw [begun_mark (by omega) (by omega) (by rw [show (0 : Int).toNat = 0 by rfl, m0]; rfl)]
            unfold begunAt
            rw [ByteArray.append_empty, if_neg (fun hh => hh.1 rfl)] at g4
            rw [show (0 : Int).toNat = 0 by rfl, if_neg m96, if_neg m34, Nat.zero_add, g4]
end Go.Proofs.YtpjglenogifclaaGreatDoor
