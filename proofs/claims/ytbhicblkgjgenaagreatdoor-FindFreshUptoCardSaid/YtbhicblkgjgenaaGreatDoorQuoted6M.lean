/- Layer 6: the program's Scan, Value and Quote, walked. -/
import Derived.Test.YtbhicblkgjgenaaGreatDoorQuoted5M
import Derived.Laws.OwnMore
import Derived.Test.YtbhicblkgjgenaaGreatDoorQuotedPM
namespace Go.Proofs.YtbhicblkgjgenaaGreatDoor
set_option linter.all false
open Go.RowKit
attribute [local irreducible] wpStill

@[irreducible] def scanPost (s : ByteArray) (at' : Int) (w0 : World) (e : Ending) (w' : World) : Prop :=
  e = .returned (.tuple #[.int .u8 (begun s at').1, .int .i64 (begun s at').2.1, .int .i64 (begun s at').2.2.2]) ∧ Below w0.heap.size w0 w'
@[irreducible] def valuePost (s : ByteArray) (w0 : World) (e : Ending) (w' : World) : Prop :=
  e = .returned (.tuple #[.string (value s).1, .int .i64 (value s).2]) ∧ Below w0.heap.size w0 w'
set_option maxRecDepth 100000 in
set_option maxHeartbeats 4000000 in
theorem quoted_Value (s : ByteArray) (w0 : World) (hT : Tabs w0) (hM : MaxC w0) (hs : s.size ≤ 2147483647) :
    Calls Tryz.prog 93 #[.string s] w0 (valuePost s w0) := by
  have CB := Lib.hid (quoted_begun s 0 w0 hT hM hs)
  have HQ : RowKit.Hid (∀ w' v err, Below w0.heap.size w0 w' → value s = (v, err) → valuePost s w0 (.returned (.tuple #[.string v, .int .i64 err])) w') :=
    Lib.hid fun w' v err h1 h2 => by unfold valuePost; rw [h2]; exact ⟨rfl, h1⟩
  generalize valuePost s w0 = Q at *
  have hV : value s = if (begun s 0).2.2.2 = 0 ∧ (begun s 0).2.1 = s.size then ((begun s 0).2.2.1, 0) else (ByteArray.empty, 4) := by unfold value; rfl
  have HV := Lib.hid hV
  clear hV
  go_enter Tryz.func93, Tryz.ntmps93
  go_wp2_with fail
  refine CB.out.mono ?_
  intro e w1 h1
  unfold begunPost at h1
  obtain ⟨rfl, hb⟩ := h1
  unfold begunVals
  generalize begun s 0 = q at *
  obtain ⟨k, t, v, err⟩ := q
  have HB := Lib.hid hb
  clear hb
  by_cases h1 : err = 0
  · by_cases h2 : t = s.size
    · go_wp2_with fail
      exact HQ.out _ _ _ HB.out (by rw [HV.out, if_pos ⟨h1, h2⟩])
    · go_wp2_with fail
      exact HQ.out _ _ _ HB.out (by rw [HV.out, if_neg (fun h => h2 h.2)]; rfl)
  · go_wp2_with fail
    exact HQ.out _ _ _ HB.out (by rw [HV.out, if_neg (fun h => h1 h.1)]; rfl)
end Go.Proofs.YtbhicblkgjgenaaGreatDoor
namespace Go.Proofs.YtbhicblkgjgenaaGreatDoor
set_option linter.all false

theorem begun_body {s : ByteArray} {i : Nat} (hi : i < s.size) (hm : bt s i = 34) : begun s i = match body s (i + 1) with
    | none => (0, 0, ByteArray.empty, 4)
    | some (e, l) => (7, e, strOfNums l, 0) := by
  rw [begun_read hi (Or.inl hm), hm]
  unfold loopZ
  simp only [if_true]
  all_goals (cases body s (i + 1) <;> rfl)
theorem body_end {s : ByteArray} {i : Nat} (h : ¬ i < s.size) : body s i = none := by unfold body; rw [dif_neg h]
theorem body_mark {s : ByteArray} {i : Nat} (h : i < s.size) (hc : bt s i = 34) : body s i = some (i + 1, []) := by unfold body; rw [dif_pos h, if_pos hc]
theorem body_item {s : ByteArray} {i : Nat} (h : i < s.size) (hc : bt s i ≠ 34) : body s i = (item s i 34).bind fun q => (body s (i + q.1)).map fun p => (p.1, q.2 ++ p.2) := by
  have := loopZ_item (mark := 34) (k := 0) (Or.inl rfl) h hc
  unfold loopZ at this
  simpa using this
theorem raw_end {s : ByteArray} {i : Nat} (h : ¬ i < s.size) : raw s i = none := by unfold raw; rw [if_neg h]
theorem raw_mark {s : ByteArray} {i : Nat} (h : i < s.size) (hc : bt s i = 96) : raw s i = some (i + 1, []) := by unfold raw; rw [if_pos h, if_pos hc]
theorem raw_next {s : ByteArray} {i : Nat} (h : i < s.size) (hc : bt s i ≠ 96) : raw s i = (raw s (i + 1)).map fun p => (p.1, (if bt s i = 13 then [] else [(bt s i : Int)]) ++ p.2) := by rw [raw, if_pos h, if_neg hc]
theorem begun_single {s : ByteArray} {i : Nat} (hi : i < s.size) (hm : bt s i = 39) : begun s i = match single s (i + 1) with
    | none => (0, 0, ByteArray.empty, 4)
    | some (e, l) => (6, e, strOfNums l, 0) := by
  rw [begun_read hi (Or.inr hm), hm]
  unfold loopZ
  rw [if_neg (by decide), if_pos rfl]
  all_goals (cases single s (i + 1) <;> rfl)
theorem single_end {s : ByteArray} {i : Nat} (h : ¬ i < s.size) : single s i = none := by unfold single; rw [if_neg h]
theorem single_mark {s : ByteArray} {i : Nat} (h : i < s.size) (hc : bt s i = 39) : single s i = none := by unfold single; rw [if_pos h, if_pos hc]
theorem single_none {s : ByteArray} {i : Nat} (h : i < s.size) (hc : bt s i ≠ 39) (hit : item s i 39 = none) : single s i = none := by unfold single; rw [if_pos h, if_neg hc, hit]
theorem single_some {s : ByteArray} {i n : Nat} {l : List Int} (h : i < s.size) (hc : bt s i ≠ 39) (hit : item s i 39 = some (n, l)) : single s i = if i + n < s.size ∧ bt s (i + n) = 39 then some (i + n + 1, l) else none := by unfold single; rw [if_pos h, if_neg hc, hit]
end Go.Proofs.YtbhicblkgjgenaaGreatDoor
namespace Go.Proofs.YtbhicblkgjgenaaGreatDoor
set_option linter.all false

theorem num_right (x s : ByteArray) (b : Int) : ∀ (c i : Nat) (n : Int), num (x ++ s) b (x.size + i) c n = num s b i c n
  | 0, i, n => by rw [num, num]
  | c + 1, i, n => by
    rw [num, num, bt_right, ByteArray.size_append]
    by_cases h : i < s.size ∧ 0 ≤ base (bt s i) ∧ base (bt s i) < b
    · rw [if_pos h, if_pos ⟨by omega, h.2⟩, show x.size + i + 1 = x.size + (i + 1) by omega, num_right x s b c (i + 1)]
    · rw [if_neg h, if_neg (fun hh => h ⟨by omega, hh.2⟩)]
theorem esc_right (x s : ByteArray) (i mark : Nat) : esc (x ++ s) (x.size + i) mark = esc s i mark := by
  unfold esc
  rw [show x.size + i + 1 = x.size + (i + 1) by omega, bt_right, show x.size + i + 2 = x.size + (i + 2) by omega, num_right, num_right, num_right, ByteArray.size_append]
  by_cases h : s.size ≤ i + 1
  · rw [if_pos h, if_pos (by omega)]
  · rw [if_neg h, if_neg (by omega)]
theorem item_right (x s : ByteArray) (i mark : Nat) : item (x ++ s) (x.size + i) mark = item s i mark := by
  unfold item
  rw [bt_right, esc_right, rd_right]
  have e : ∀ n, (x ++ s).extract (x.size + i) (x.size + i + n) = s.extract i (i + n) := fun n => by
    apply ByteArray.ext
    apply Array.ext'
    rw [extract_data, extract_data, data_append, show x.size + i + n - (x.size + i) = n by omega, show i + n - i = n by omega, size_data x, List.drop_append, List.drop_of_length_le (by omega), List.nil_append, Nat.add_sub_cancel_left]
  rw [e]
theorem body_right (x s : ByteArray) (i : Nat) : body (x ++ s) (x.size + i) = (body s i).map fun p => (x.size + p.1, p.2) := by
  by_cases hi : i < s.size
  · by_cases hc : bt s i = 34
    · rw [body_mark hi hc, body_mark (by rw [ByteArray.size_append]; omega) (by rw [bt_right]; exact hc)]
      rfl
    · rw [body_item hi hc, body_item (by rw [ByteArray.size_append]; omega) (by rw [bt_right]; exact hc), item_right]
      cases hit : item s i 34 with
      | none => rfl
      | some q =>
        have hp := item_pos hi hit
        simp only [Option.bind_some]
        rw [show x.size + i + q.1 = x.size + (i + q.1) by omega, body_right x s (i + q.1)]
        cases body s (i + q.1) <;> rfl
  · rw [body_end hi, body_end (by rw [ByteArray.size_append]; omega)]
    rfl
termination_by s.size - i
decreasing_by omega
theorem num_left (s y : ByteArray) (b : Int) : ∀ (c i : Nat) (n m : Int), num s b i c n = some m → num (s ++ y) b i c n = some m
  | 0, i, n, m, h => by rw [num] at h ⊢; exact h
  | c + 1, i, n, m, h => by
    rw [num] at h ⊢
    by_cases hc : i < s.size ∧ 0 ≤ base (bt s i) ∧ base (bt s i) < b
    · rw [if_pos hc] at h
      rw [bt_left s y i hc.1, if_pos ⟨by rw [ByteArray.size_append]; omega, hc.2⟩]
      exact num_left s y b c (i + 1) _ m h
    · rw [if_neg hc] at h; cases h
theorem esc_left (s y : ByteArray) (i mark : Nat) (q : Nat × List Int) (h : esc s i mark = some q) : esc (s ++ y) i mark = some q := by
  have hsz : ¬ s.size ≤ i + 1 := fun hh => by unfold esc at h; rw [if_pos hh] at h; cases h
  unfold esc at h ⊢
  rw [if_neg hsz] at h
  rw [if_neg (by rw [ByteArray.size_append]; omega), bt_left s y (i + 1) (by omega)]
  split at h
  · rename_i h1; rw [if_pos h1]; exact h
  · rename_i h1
    rw [if_neg h1]
    split at h
    · rename_i h2; rw [if_pos h2]; exact h
    · rename_i h2
      rw [if_neg h2]
      split at h
      · rename_i h3
        rw [if_pos h3]
        cases hn : num s 16 (i + 2) 2 0 with
        | none => rw [hn] at h; cases h
        | some v => rw [hn] at h; rw [num_left s y 16 2 (i + 2) 0 v hn]; exact h
      · rename_i h3
        rw [if_neg h3]
        split at h
        · rename_i h4
          rw [if_pos h4]
          cases hn : num s 16 (i + 2) (if bt s (i + 1) = 85 then 8 else 4) 0 with
          | none => rw [hn] at h; cases h
          | some v => rw [hn] at h; rw [num_left s y 16 _ (i + 2) 0 v hn]; exact h
        · rename_i h4
          rw [if_neg h4]
          cases hn : num s 8 (i + 1) 3 0 with
          | none => rw [hn] at h; cases h
          | some v => rw [hn] at h; rw [num_left s y 8 3 (i + 1) 0 v hn]; exact h
theorem item_left (s y : ByteArray) (i mark : Nat) (hi : i < s.size) (q : Nat × List Int) (h : item s i mark = some q) : item (s ++ y) i mark = some q := by
  unfold item at h ⊢
  rw [bt_left s y i hi]
  split at h
  · rename_i h1; rw [if_pos h1]; exact esc_left s y i mark q h
  · rename_i h1
    rw [if_neg h1]
    split at h
    · cases h
    · rename_i h2
      rw [if_neg h2]
      split at h
      · rename_i h3; rw [if_pos h3]; exact h
      · rename_i h3
        rw [if_neg h3]
        split at h
        · cases h
        · rename_i h4
          rw [rd_left s y i hi h4, if_neg h4]
          have hw := rd_width s i
          have e : (s ++ y).extract i (i + (rd s i).2) = s.extract i (i + (rd s i).2) := by
            apply ByteArray.ext
            apply Array.ext'
            rw [extract_data, extract_data, data_append, List.drop_append_of_le_length (by rw [← size_data]; omega), List.take_append_of_le_length (by rw [List.length_drop, ← size_data]; omega)]
          rw [e]; exact h
theorem body_left (s y : ByteArray) (i : Nat) (p : Nat × List Int) (h : body s i = some p) : body (s ++ y) i = some p := by
  by_cases hi : i < s.size
  · by_cases hc : bt s i = 34
    · rw [body_mark hi hc] at h
      rw [body_mark (by rw [ByteArray.size_append]; omega) (by rw [bt_left s y i hi]; exact hc)]
      exact h
    · rw [body_item hi hc] at h
      rw [body_item (by rw [ByteArray.size_append]; omega) (by rw [bt_left s y i hi]; exact hc)]
      cases hit : item s i 34 with
      | none => rw [hit] at h; cases h
      | some q =>
        have hp := item_pos hi hit
        rw [hit, Option.bind_some] at h
        rw [item_left s y i 34 hi q hit, Option.bind_some]
        cases hb : body s (i + q.1) with
        | none => rw [hb] at h; cases h
        | some p2 =>
          rw [hb] at h
          rw [body_left s y (i + q.1) p2 hb]
          exact h
  · rw [body_end hi] at h; cases h
termination_by s.size - i
decreasing_by omega
theorem num_back (m y : ByteArray) (b : Int) : ∀ (c i : Nat) (n v : Int), i + c ≤ m.size → num (m ++ y) b i c n = some v → num m b i c n = some v
  | 0, i, n, v, _, h => by rw [num] at h ⊢; exact h
  | c + 1, i, n, v, hl, h => by
    rw [num] at h ⊢
    rw [bt_left m y i (by omega)] at h
    by_cases hc : 0 ≤ base (bt m i) ∧ base (bt m i) < b
    · rw [if_pos ⟨by rw [ByteArray.size_append]; omega, hc⟩] at h
      rw [if_pos ⟨by omega, hc⟩]
      exact num_back m y b c (i + 1) _ v (by omega) h
    · rw [if_neg (fun hh => hc hh.2)] at h; cases h
theorem esc_back (m y : ByteArray) (i mark n : Nat) (l : List Int) (h : esc (m ++ y) i mark = some (n, l)) (hl : i + n ≤ m.size) : esc m i mark = some (n, l) := by
  have hp := (esc_pos h).1
  unfold esc at h ⊢
  rw [if_neg (by rw [ByteArray.size_append]; omega), bt_left m y (i + 1) (by omega)] at h
  rw [if_neg (by omega)]
  split at h
  · rename_i h1; rw [if_pos h1]; exact h
  · rename_i h1
    rw [if_neg h1]
    split at h
    · rename_i h2; rw [if_pos h2]; exact h
    · rename_i h2
      rw [if_neg h2]
      split at h
      · rename_i h3
        rw [if_pos h3]
        cases hn : num (m ++ y) 16 (i + 2) 2 0 with
        | none => rw [hn] at h; cases h
        | some v =>
          rw [hn] at h
          have e : n = 4 := by cases h; rfl
          rw [num_back m y 16 2 (i + 2) 0 v (by omega) hn]; exact h
      · rename_i h3
        rw [if_neg h3]
        split at h
        · rename_i h4
          rw [if_pos h4]
          cases hn : num (m ++ y) 16 (i + 2) (if bt m (i + 1) = 85 then 8 else 4) 0 with
          | none => rw [hn] at h; cases h
          | some v =>
            rw [hn] at h
            have e : n = 2 + (if bt m (i + 1) = 85 then 8 else 4) := by
              rw [Option.bind_some] at h
              split at h
              · cases h; rfl
              · cases h
            rw [num_back m y 16 _ (i + 2) 0 v (by omega) hn]; exact h
        · rename_i h4
          rw [if_neg h4]
          cases hn : num (m ++ y) 8 (i + 1) 3 0 with
          | none => rw [hn] at h; cases h
          | some v =>
            rw [hn] at h
            have e : n = 4 := by
              rw [Option.bind_some] at h
              split at h
              · cases h
              · cases h; rfl
            rw [num_back m y 8 3 (i + 1) 0 v (by omega) hn]; exact h
theorem raw_lim (s : ByteArray) (i e : Nat) (l : List Int) (h : raw s i = some (e, l)) : i + 1 ≤ e ∧ e ≤ s.size := by
  by_cases hi : i < s.size
  · by_cases hc : bt s i = 96
    · rw [raw_mark hi hc] at h; cases h; omega
    · rw [raw_next hi hc] at h
      cases hb : raw s (i + 1) with
      | none => rw [hb] at h; cases h
      | some p =>
        obtain ⟨e2, l2⟩ := p
        rw [hb] at h
        have := raw_lim s (i + 1) e2 l2 hb
        simp only [Option.map_some, Option.some.injEq, Prod.mk.injEq] at h
        omega
  · rw [raw_end hi] at h; cases h
termination_by s.size - i
decreasing_by omega
theorem body_lim (s : ByteArray) (i e : Nat) (l : List Int) (h : body s i = some (e, l)) : i + 1 ≤ e ∧ e ≤ s.size := by
  by_cases hi : i < s.size
  · by_cases hc : bt s i = 34
    · rw [body_mark hi hc] at h; cases h; omega
    · rw [body_item hi hc] at h
      cases hit : item s i 34 with
      | none => rw [hit] at h; cases h
      | some q =>
        obtain ⟨n, l1⟩ := q
        have hp := item_pos hi hit
        rw [hit, Option.bind_some] at h
        cases hb : body s (i + n) with
        | none => rw [hb] at h; cases h
        | some p =>
          obtain ⟨e2, l2⟩ := p
          rw [hb] at h
          have := body_lim s (i + n) e2 l2 hb
          simp only [Option.map_some, Option.some.injEq, Prod.mk.injEq] at h
          omega
  · rw [body_end hi] at h; cases h
termination_by s.size - i
decreasing_by omega
theorem single_lim (s : ByteArray) (i e : Nat) (l : List Int) (h : single s i = some (e, l)) : i + 1 ≤ e ∧ e ≤ s.size := by
  by_cases hi : i < s.size
  · by_cases hc : bt s i = 39
    · rw [single_mark hi hc] at h; cases h
    · cases hit : item s i 39 with
      | none => rw [single_none hi hc hit] at h; cases h
      | some q =>
        obtain ⟨n, l1⟩ := q
        have hp := item_pos hi hit
        rw [single_some hi hc hit] at h
        split at h
        · simp only [Option.some.injEq, Prod.mk.injEq] at h; omega
        · cases h
  · rw [single_end hi] at h; cases h
theorem item_back (m y : ByteArray) (i mark n : Nat) (l : List Int) (hi : i < m.size) (h : item (m ++ y) i mark = some (n, l)) (hl : i + n ≤ m.size) : item m i mark = some (n, l) := by
  unfold item at h ⊢
  rw [bt_left m y i hi] at h
  split at h
  · rename_i h1; rw [if_pos h1]; exact esc_back m y i mark n l h hl
  · rename_i h1
    rw [if_neg h1]
    split at h
    · cases h
    · rename_i h2
      rw [if_neg h2]
      split at h
      · rename_i h3; rw [if_pos h3]; exact h
      · rename_i h3
        rw [if_neg h3]
        split at h
        · cases h
        · rename_i h4
          have hn : (rd (m ++ y) i).2 = n := by cases h; rfl
          have hr := rd_back m y i h4 (by omega)
          rw [hr, if_neg h4]
          have e : (m ++ y).extract i (i + (rd (m ++ y) i).2) = m.extract i (i + (rd (m ++ y) i).2) := by
            apply ByteArray.ext
            apply Array.ext'
            rw [extract_data, extract_data, data_append, List.drop_append_of_le_length (by rw [← size_data]; omega), List.take_append_of_le_length (by rw [List.length_drop, ← size_data]; omega)]
          rw [← e]; exact h
/-- A body that ends at a mark can be taken on with other bytes in the place of the mark. -/
theorem body_cut (a u u' : ByteArray) (i : Nat) (l : List Int) (h : body (a ++ u) i = some (a.size + 1, l)) :
    bt (a ++ u) a.size = 34 ∧ i ≤ a.size ∧ body (a ++ u') i = (body (a ++ u') a.size).map fun p => (p.1, l ++ p.2) := by
  by_cases hi : i < (a ++ u).size
  · by_cases hc : bt (a ++ u) i = 34
    · rw [body_mark hi hc] at h
      cases h
      refine ⟨hc, Nat.le_refl _, ?_⟩
      cases body (a ++ u') a.size <;> rfl
    · rw [body_item hi hc] at h
      cases hit : item (a ++ u) i 34 with
      | none => rw [hit] at h; cases h
      | some q =>
        obtain ⟨n, l1⟩ := q
        have hp := item_pos hi hit
        rw [hit, Option.bind_some] at h
        cases hb : body (a ++ u) (i + n) with
        | none => rw [hb] at h; cases h
        | some p2 =>
          obtain ⟨e2, l2⟩ := p2
          rw [hb] at h
          simp only [Option.map_some, Option.some.injEq, Prod.mk.injEq] at h
          obtain ⟨rfl, rfl⟩ := h
          obtain ⟨g1, g2, g3⟩ := body_cut a u u' (i + n) l2 hb
          have hia : i < a.size := by omega
          refine ⟨g1, by omega, ?_⟩
          rw [bt_left a u i hia] at hc
          have h3 := item_left a u' i 34 hia (n, l1) (item_back a u i 34 n l1 hia hit g2)
          rw [body_item (by rw [ByteArray.size_append]; omega) (by rw [bt_left a u' i hia]; exact hc), h3, Option.bind_some, g3]
          cases body (a ++ u') a.size with
          | none => rfl
          | some p => simp
  · rw [body_end hi] at h; cases h
termination_by (a ++ u).size - i
decreasing_by omega
theorem raw_cut (a u u' : ByteArray) (i : Nat) (l : List Int) (h : raw (a ++ u) i = some (a.size + 1, l)) :
    bt (a ++ u) a.size = 96 ∧ i ≤ a.size ∧ raw (a ++ u') i = (raw (a ++ u') a.size).map fun p => (p.1, l ++ p.2) := by
  by_cases hi : i < (a ++ u).size
  · by_cases hc : bt (a ++ u) i = 96
    · rw [raw_mark hi hc] at h
      cases h
      refine ⟨hc, Nat.le_refl _, ?_⟩
      cases raw (a ++ u') a.size <;> rfl
    · rw [raw_next hi hc] at h
      cases hb : raw (a ++ u) (i + 1) with
      | none => rw [hb] at h; cases h
      | some p2 =>
        obtain ⟨e2, l2⟩ := p2
        rw [hb] at h
        simp only [Option.map_some, Option.some.injEq, Prod.mk.injEq] at h
        obtain ⟨rfl, rfl⟩ := h
        obtain ⟨g1, g2, g3⟩ := raw_cut a u u' (i + 1) l2 hb
        have hia : i < a.size := by omega
        refine ⟨g1, by omega, ?_⟩
        rw [bt_left a u i hia] at hc
        rw [raw_next (by rw [ByteArray.size_append]; omega) (by rw [bt_left a u' i hia]; exact hc), g3, bt_left a u i hia, bt_left a u' i hia]
        cases raw (a ++ u') a.size with
        | none => rfl
        | some p => simp
  · rw [raw_end hi] at h; cases h
termination_by (a ++ u).size - i
decreasing_by omega
theorem raw_right (x s : ByteArray) (i : Nat) : raw (x ++ s) (x.size + i) = (raw s i).map fun p => (x.size + p.1, p.2) := by
  by_cases hi : i < s.size
  · by_cases hc : bt s i = 96
    · rw [raw_mark hi hc, raw_mark (by rw [ByteArray.size_append]; omega) (by rw [bt_right]; exact hc)]
      rfl
    · rw [raw_next hi hc, raw_next (by rw [ByteArray.size_append]; omega) (by rw [bt_right]; exact hc), show x.size + i + 1 = x.size + (i + 1) by omega, raw_right x s (i + 1), bt_right]
      cases raw s (i + 1) <;> rfl
  · rw [raw_end hi, raw_end (by rw [ByteArray.size_append]; omega)]
    rfl
termination_by s.size - i
decreasing_by omega
theorem single_right (x s : ByteArray) (i : Nat) : single (x ++ s) (x.size + i) = (single s i).map fun p => (x.size + p.1, p.2) := by
  by_cases hi : i < s.size
  · have hi2 : x.size + i < (x ++ s).size := by rw [ByteArray.size_append]; omega
    by_cases hc : bt s i = 39
    · rw [single_mark hi hc, single_mark hi2 (by rw [bt_right]; exact hc)]; rfl
    · have hc2 : bt (x ++ s) (x.size + i) ≠ 39 := by rw [bt_right]; exact hc
      have e := item_right x s i 39
      cases hit : item s i 39 with
      | none =>
        rw [hit] at e
        rw [single_none hi hc hit, single_none hi2 hc2 e]; rfl
      | some q =>
        obtain ⟨n, l⟩ := q
        rw [hit] at e
        rw [single_some hi hc hit, single_some hi2 hc2 e, show x.size + i + n = x.size + (i + n) by omega, bt_right, ByteArray.size_append]
        by_cases h : i + n < s.size ∧ bt s (i + n) = 39
        · rw [if_pos h, if_pos ⟨by omega, h.2⟩]; rfl
        · rw [if_neg h, if_neg (fun hh => h ⟨by omega, hh.2⟩)]; rfl
  · rw [single_end hi, single_end (by rw [ByteArray.size_append]; omega)]; rfl
theorem single_cut (a u u' : ByteArray) (i : Nat) (l : List Int) (h : single (a ++ u) i = some (a.size + 1, l)) :
    bt (a ++ u) a.size = 39 ∧ i ≤ a.size ∧ single (a ++ u') i = if u'.size ≠ 0 ∧ bt u' 0 = 39 then some (a.size + 1, l) else none := by
  by_cases hi : i < (a ++ u).size
  · by_cases hc : bt (a ++ u) i = 39
    · rw [single_mark hi hc] at h; cases h
    · cases hit : item (a ++ u) i 39 with
      | none => rw [single_none hi hc hit] at h; cases h
      | some q =>
        obtain ⟨n, l1⟩ := q
        have hp := item_pos hi hit
        rw [single_some hi hc hit] at h
        split at h
        · rename_i h2
          simp only [Option.some.injEq, Prod.mk.injEq] at h
          obtain ⟨h3, rfl⟩ := h
          have hn : i + n = a.size := by omega
          have hia : i < a.size := by omega
          rw [bt_left a u i hia] at hc
          have g := item_left a u' i 39 hia (n, l1) (item_back a u i 39 n l1 hia hit (by omega))
          refine ⟨by rw [← hn]; exact h2.2, by omega, ?_⟩
          rw [single_some (by rw [ByteArray.size_append]; omega) (by rw [bt_left a u' i hia]; exact hc) g, hn]
          have e := bt_right a u' 0
          rw [Nat.add_zero] at e
          rw [e, ByteArray.size_append]
          by_cases h5 : u'.size ≠ 0 ∧ bt u' 0 = 39
          · rw [if_pos h5, if_pos ⟨by omega, h5.2⟩]
          · rw [if_neg h5, if_neg (fun hh => h5 ⟨by omega, hh.2⟩)]
        · cases h
  · rw [single_end hi] at h; cases h
theorem begun_mark {s : ByteArray} {at' : Int} (h0 : 0 ≤ at') (h1 : at' < s.size) (hm : isMark (bt s at'.toNat) = true) : begun s at' = begunAt s at'.toNat := by
  unfold begun
  rw [if_neg (by omega), if_pos hm]
theorem begun_ok {s : ByteArray} {at' k e : Int} {v : ByteArray} (h : begun s at' = (k, e, v, 0)) : 0 ≤ at' ∧ at' < s.size ∧ isMark (bt s at'.toNat) = true := by
  unfold begun at h
  split at h
  · simp at h
  · split at h
    · exact ⟨by omega, by omega, by assumption⟩
    · simp at h
theorem begun_err (s : ByteArray) (at' : Int) (h : (begun s at').2.2.2 ≠ 0) : (begun s at').1 = 0 ∧ (begun s at').2.1 = 0 := by
  unfold begun at h ⊢
  split
  · exact ⟨rfl, rfl⟩
  · rename_i h1
    rw [if_neg h1] at h
    split
    · rename_i h2
      rw [if_pos h2] at h
      unfold begunAt at h ⊢
      split
      · rename_i h3
        rw [if_pos h3] at h
        cases hr : raw s (at'.toNat + 1) with
        | none => exact ⟨rfl, rfl⟩
        | some p => rw [hr] at h; exact absurd rfl h
      · rename_i h3
        rw [if_neg h3] at h
        split
        · rename_i h4
          rw [if_pos h4] at h
          cases hr : body s (at'.toNat + 1) with
          | none => exact ⟨rfl, rfl⟩
          | some p => rw [hr] at h; exact absurd rfl h
        · rename_i h4
          rw [if_neg h4] at h
          cases hr : single s (at'.toNat + 1) with
          | none => exact ⟨rfl, rfl⟩
          | some p => rw [hr] at h; exact absurd rfl h
    · exact ⟨rfl, rfl⟩
theorem value_ok {s v : ByteArray} (h : value s = (v, 0)) : ∃ k, begun s 0 = (k, (s.size : Int), v, 0) := by
  unfold value at h
  split at h
  · rename_i h1
    generalize begun s 0 = q at *
    obtain ⟨k, e, v', err⟩ := q
    simp only [] at h1 h
    obtain ⟨rfl, rfl⟩ := h1
    cases h
    exact ⟨k, rfl⟩
  · simp at h
theorem value_of {s v : ByteArray} {k : Int} (h : begun s 0 = (k, (s.size : Int), v, 0)) : value s = (v, 0) := by
  unfold value
  rw [h, if_pos ⟨rfl, rfl⟩]
theorem value_not {s : ByteArray} (h : (begun s 0).2.2.2 = 4) : value s = (ByteArray.empty, 4) := by
  unfold value
  rw [if_neg (fun hh => by rw [h] at hh; exact absurd hh.1 (by decide))]
theorem value_body {s v : ByteArray} (h : value s = (v, 0)) (hm : bt s 0 = 34) : 1 ≤ s.size ∧ ∃ l, body s 1 = some (s.size, l) ∧ v = strOfNums l := by
  obtain ⟨k, hk⟩ := value_ok h
  obtain ⟨_, h1, _⟩ := begun_ok hk
  have h2 : (0 : Nat) < s.size := by omega
  have h3 := begun_body h2 hm
  rw [show ((0 : Nat) : Int) = 0 by rfl, hk] at h3
  refine ⟨h2, ?_⟩
  rw [Nat.zero_add] at h3
  cases hb : body s 1 with
  | none => rw [hb] at h3; simp at h3
  | some p =>
    obtain ⟨e, l⟩ := p
    rw [hb] at h3
    simp only [Prod.mk.injEq] at h3
    refine ⟨l, ?_, h3.2.2.1⟩
    have : s.size = e := by omega
    rw [this]
theorem value_joins (a b va vb : ByteArray) (ha : value a = (va, 0)) (hb : value b = (vb, 0)) (ma : bt a 0 = 34) (mb : bt b 0 = 34) :
    value (a.extract 0 (a.size - 1) ++ b.extract 1 b.size) = (va ++ vb, 0) := by
  obtain ⟨sa, la, ba, rfl⟩ := value_body ha ma
  obtain ⟨sb, lb, bb, rfl⟩ := value_body hb mb
  have ea := cut_at a (a.size - 1) (by omega)
  have eb := cut_at b 1 sb
  have za : (a.extract 0 (a.size - 1)).size = a.size - 1 := by rw [ByteArray.size_extract]; omega
  have zb : (b.extract 0 1).size = 1 := by rw [ByteArray.size_extract]; omega
  have zb1 : (b.extract 1 b.size).size = b.size - 1 := by rw [ByteArray.size_extract]; omega
  generalize a.extract 0 (a.size - 1) = a' at *
  generalize a.extract (a.size - 1) a.size = a2 at *
  generalize b.extract 0 1 = b0 at *
  generalize b.extract 1 b.size = b1 at *
  have ba2 : body (a' ++ a2) 1 = some (a'.size + 1, la) := by rw [ea, ba, za]; congr 2; omega
  obtain ⟨g1, g2, g3⟩ := body_cut a' a2 b1 1 la ba2
  have bb2 : body (b0 ++ b1) (b0.size + 0) = some (b.size, lb) := by rw [eb, zb]; exact bb
  rw [body_right] at bb2
  have r := body_right a' b1 0
  rw [Nat.add_zero] at r
  rw [r] at g3
  have ha0 : 0 < a'.size := by omega
  have m0 : bt (a' ++ b1) 0 = 34 := by
    rw [bt_left a' b1 0 ha0, ← bt_left a' a2 0 ha0, ea]; exact ma
  have hsz : (a' ++ b1).size = a'.size + (b.size - 1) := by rw [ByteArray.size_append, zb1]
  have h4 := begun_body (s := a' ++ b1) (i := 0) (by omega) m0
  rw [Nat.zero_add] at h4
  cases hb1 : body b1 0 with
  | none => rw [hb1] at bb2; cases bb2
  | some p =>
    obtain ⟨e, l⟩ := p
    rw [hb1] at bb2 g3
    simp only [Option.map_some, Option.some.injEq, Prod.mk.injEq] at bb2 g3
    obtain ⟨h5, rfl⟩ := bb2
    rw [g3] at h4
    simp only [] at h4
    have h6 : a'.size + e = (a' ++ b1).size := by omega
    rw [h6, strOfNums_append] at h4
    exact value_of (k := 7) h4
/-- What is found at a place stands by itself, and not without its last mark. -/
theorem begun_found (s : ByteArray) (at' k e : Int) (v : ByteArray) (h : begun s at' = (k, e, v, 0)) :
    ∃ i n : Nat, at' = i ∧ e = n ∧ i + 2 ≤ n ∧ n ≤ s.size ∧ bt s i = bt s (n - 1) ∧ value (s.extract i n) = (v, 0) ∧ value (s.extract i (n - 1)) = (ByteArray.empty, 4) ∧ ((k = 6 ∧ bt s i = 39) ∨ (k = 7 ∧ bt s i ≠ 39)) := by
  obtain ⟨h0, h1, hm⟩ := begun_ok h
  rw [begun_mark h0 h1 hm] at h
  obtain ⟨i, rfl⟩ : ∃ i : Nat, at' = i := ⟨at'.toNat, by omega⟩
  rw [Int.toNat_natCast] at h hm
  have hi : i < s.size := by omega
  -- cut the text: x, the marked text without its last mark, the rest
  have hx := cut_at s i (by omega)
  have zx : (s.extract 0 i).size = i := by rw [ByteArray.size_extract]; omega
  have key : ∀ n : Nat, i + 2 ≤ n → n ≤ s.size → ∃ m u, s.extract i s.size = m ++ u ∧ s.extract i (n - 1) = m ∧ m.size = n - 1 - i ∧ u.size = s.size - (n - 1) ∧ s.extract i n = m ++ s.extract (n - 1) n ∧ (s.extract (n - 1) n).size = 1 ∧ bt (s.extract (n - 1) n) 0 = bt s (n - 1) := by
    intro n h2 h3
    refine ⟨s.extract i (n - 1), s.extract (n - 1) s.size, (extract_all s i (n - 1) s.size (by omega) (by omega)).symm, rfl, by rw [ByteArray.size_extract]; omega, by rw [ByteArray.size_extract]; omega, (extract_all s i (n - 1) n (by omega) (by omega)).symm, by rw [ByteArray.size_extract]; omega, ?_⟩
    unfold bt
    rw [get!_extract s (n - 1) n 0 (by omega) h3, Nat.add_zero]
  generalize s.extract 0 i = x at *
  have hbt : bt (s.extract i s.size) 0 = bt s i := by
    have := bt_right x (s.extract i s.size) 0
    rw [hx, zx, Nat.add_zero] at this
    exact this.symm
  have hbn : ∀ j, bt s (i + j) = bt (s.extract i s.size) j := by
    intro j
    have := bt_right x (s.extract i s.size) j
    rw [hx, zx] at this
    exact this
  have hsx : (s.extract i s.size).size = s.size - i := by rw [ByteArray.size_extract]; omega
  unfold begunAt at h
  by_cases h96 : bt s i = 96
  · rw [if_pos h96] at h
    cases hr : raw s (i + 1) with
    | none => rw [hr] at h; simp at h
    | some p =>
      obtain ⟨n, l⟩ := p
      rw [hr] at h
      simp only [Prod.mk.injEq] at h
      obtain ⟨rfl, rfl, rfl, _⟩ := h
      have rr := raw_right x (s.extract i s.size) 1
      rw [hx, zx, hr] at rr
      cases hr2 : raw (s.extract i s.size) 1 with
      | none => rw [hr2] at rr; cases rr
      | some p2 =>
        obtain ⟨n2, l2⟩ := p2
        rw [hr2] at rr
        simp only [Option.map_some, Option.some.injEq, Prod.mk.injEq] at rr
        obtain ⟨rfl, rfl⟩ := rr
        have hlim := raw_lim _ _ _ _ hr2
        obtain ⟨m, u, e1, e2, e3, e4, e5, e6, e7⟩ := key (i + n2) (by omega) (by omega)
        rw [e1] at hr2
        have en : n2 = m.size + 1 := by omega
        rw [en] at hr2
        obtain ⟨g1, g2, g3⟩ := raw_cut m u (s.extract (i + n2 - 1) (i + n2)) 1 l hr2
        obtain ⟨_, _, g4⟩ := raw_cut m u ByteArray.empty 1 l hr2
        have hlast : bt s (i + n2 - 1) = 96 := by
          rw [show i + n2 - 1 = i + m.size by omega, hbn, e1]; exact g1
        have r3 := raw_right m (s.extract (i + n2 - 1) (i + n2)) 0
        rw [Nat.add_zero, raw_mark (s := s.extract (i + n2 - 1) (i + n2)) (i := 0) (by omega) (by rw [e7]; exact hlast)] at r3
        rw [r3] at g3
        have m0 : bt m 0 = 96 := by rw [← bt_left m u 0 (by omega), ← e1, hbt]; exact h96
        refine ⟨i, i + n2, rfl, rfl, by omega, by omega, by rw [hlast, h96], ?_, ?_, Or.inr ⟨rfl, by omega⟩⟩
        · rw [e5]
          apply value_of (k := 7)
          rw [begun_mark (by omega) (by rw [ByteArray.size_append]; omega) (by rw [show (0 : Int).toNat = 0 by rfl, bt_left m _ 0 (by omega), m0]; rfl)]
          unfold begunAt
          rw [show (0 : Int).toNat = 0 by rfl, bt_left m _ 0 (by omega), if_pos m0, Nat.zero_add, g3, ByteArray.size_append, e6]
          simp
        · rw [e2]
          apply value_not
          rw [begun_mark (by omega) (by omega) (by rw [show (0 : Int).toNat = 0 by rfl, m0]; rfl)]
          unfold begunAt
          rw [ByteArray.append_empty] at g4
          rw [show (0 : Int).toNat = 0 by rfl, if_pos m0, Nat.zero_add, g4, raw_end (by omega)]
          rfl
  · rw [if_neg h96] at h
    by_cases h34 : bt s i = 34
    · rw [if_pos h34] at h
      cases hr : body s (i + 1) with
      | none => rw [hr] at h; simp at h
      | some p =>
        obtain ⟨n, l⟩ := p
        rw [hr] at h
        simp only [Prod.mk.injEq] at h
        obtain ⟨rfl, rfl, rfl, _⟩ := h
        have rr := body_right x (s.extract i s.size) 1
        rw [hx, zx, hr] at rr
        cases hr2 : body (s.extract i s.size) 1 with
        | none => rw [hr2] at rr; cases rr
        | some p2 =>
          obtain ⟨n2, l2⟩ := p2
          rw [hr2] at rr
          simp only [Option.map_some, Option.some.injEq, Prod.mk.injEq] at rr
          obtain ⟨rfl, rfl⟩ := rr
          have hlim := body_lim _ _ _ _ hr2
          obtain ⟨m, u, e1, e2, e3, e4, e5, e6, e7⟩ := key (i + n2) (by omega) (by omega)
          rw [e1] at hr2
          have en : n2 = m.size + 1 := by omega
          rw [en] at hr2
          obtain ⟨g1, g2, g3⟩ := body_cut m u (s.extract (i + n2 - 1) (i + n2)) 1 l hr2
          obtain ⟨_, _, g4⟩ := body_cut m u ByteArray.empty 1 l hr2
          have hlast : bt s (i + n2 - 1) = 34 := by
            rw [show i + n2 - 1 = i + m.size by omega, hbn, e1]; exact g1
          have r3 := body_right m (s.extract (i + n2 - 1) (i + n2)) 0
          rw [Nat.add_zero, body_mark (s := s.extract (i + n2 - 1) (i + n2)) (i := 0) (by omega) (by rw [e7]; exact hlast)] at r3
          rw [r3] at g3
          have m0 : bt m 0 = 34 := by rw [← bt_left m u 0 (by omega), ← e1, hbt]; exact h34
          have m96 : ¬ bt m 0 = 96 := by omega
          refine ⟨i, i + n2, rfl, rfl, by omega, by omega, by rw [hlast, h34], ?_, ?_, Or.inr ⟨rfl, by omega⟩⟩
          · rw [e5]
            apply value_of (k := 7)
            rw [begun_mark (by omega) (by rw [ByteArray.size_append]; omega) (by rw [show (0 : Int).toNat = 0 by rfl, bt_left m _ 0 (by omega), m0]; rfl)]
            unfold begunAt
            rw [show (0 : Int).toNat = 0 by rfl, bt_left m _ 0 (by omega), if_neg m96, if_pos m0, Nat.zero_add, g3, ByteArray.size_append, e6]
            simp
          · rw [e2]
            apply value_not
            rw [begun_mark (by omega) (by omega) (by rw [show (0 : Int).toNat = 0 by rfl, m0]; rfl)]
            unfold begunAt
            rw [ByteArray.append_empty] at g4
            rw [show (0 : Int).toNat = 0 by rfl, if_neg m96, if_pos m0, Nat.zero_add, g4, body_end (by omega)]
            rfl
    · rw [if_neg h34] at h
      have h39 : bt s i = 39 := by
        unfold isMark at hm
        simp at hm
        omega
      cases hr : single s (i + 1) with
      | none => rw [hr] at h; simp at h
      | some p =>
        obtain ⟨n, l⟩ := p
        rw [hr] at h
        simp only [Prod.mk.injEq] at h
        obtain ⟨rfl, rfl, rfl, _⟩ := h
        have rr := single_right x (s.extract i s.size) 1
        rw [hx, zx, hr] at rr
        cases hr2 : single (s.extract i s.size) 1 with
        | none => rw [hr2] at rr; cases rr
        | some p2 =>
          obtain ⟨n2, l2⟩ := p2
          rw [hr2] at rr
          simp only [Option.map_some, Option.some.injEq, Prod.mk.injEq] at rr
          obtain ⟨rfl, rfl⟩ := rr
          have hlim := single_lim _ _ _ _ hr2
          obtain ⟨m, u, e1, e2, e3, e4, e5, e6, e7⟩ := key (i + n2) (by omega) (by omega)
          rw [e1] at hr2
          have en : n2 = m.size + 1 := by omega
          rw [en] at hr2
          obtain ⟨g1, g2, g3⟩ := single_cut m u (s.extract (i + n2 - 1) (i + n2)) 1 l hr2
          obtain ⟨_, _, g4⟩ := single_cut m u ByteArray.empty 1 l hr2
          have hlast : bt s (i + n2 - 1) = 39 := by
            rw [show i + n2 - 1 = i + m.size by omega, hbn, e1]; exact g1
          rw [if_pos ⟨by omega, by rw [e7]; exact hlast⟩] at g3
          have m0 : bt m 0 = 39 := by rw [← bt_left m u 0 (by omega), ← e1, hbt]; exact h39
          have m96 : ¬ bt m 0 = 96 := by omega
          have m34 : ¬ bt m 0 = 34 := by omega
          refine ⟨i, i + n2, rfl, rfl, by omega, by omega, by rw [hlast, h39], ?_, ?_, Or.inl ⟨rfl, h39⟩⟩
          · rw [e5]
            apply value_of (k := 6)
            rw [begun_mark (by omega) (by rw [ByteArray.size_append]; omega) (by rw [show (0 : Int).toNat = 0 by rfl, bt_left m _ 0 (by omega), m0]; rfl)]
            unfold begunAt
            rw [show (0 : Int).toNat = 0 by rfl, bt_left m _ 0 (by omega), if_neg m96, if_neg m34, Nat.zero_add, g3, ByteArray.size_append, e6]
          · rw [e2]
            apply value_not
            rw [begun_mark (by omega) (by omega) (by rw [show (0 : Int).toNat = 0 by rfl, m0]; rfl)]
            unfold begunAt
            rw [ByteArray.append_empty, if_neg (fun hh => hh.1 rfl)] at g4
            rw [show (0 : Int).toNat = 0 by rfl, if_neg m96, if_neg m34, Nat.zero_add, g4]
end Go.Proofs.YtbhicblkgjgenaaGreatDoor
