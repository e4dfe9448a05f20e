/- Layer 6 in plain Lean: texts in marks, step by step. -/
import Derived.Test.YtcnkcnalabjhgaaDoorBack
import Derived.Test.YtcnkcnalabjhgaaDoorQuoted5
namespace Go.Proofs.YtcnkcnalabjhgaaDoor
set_option linter.all false

theorem begun_body {s : ByteArray} {i : Nat} (hi : i < s.size) (hm : bt s i = 34) : begun s i = match body s (i + 1) with
    | none => (0, 0, ByteArray.empty, 4)
    | some (e, l) => (7, e, strOfNums l, 0) := by
  rw [begun_read hi (Or.inl hm), hm]
  unfold loopZ
  simp only [if_true]
  cases body s (i + 1) <;> rfl
theorem body_end {s : ByteArray} {i : Nat} (h : ¬ i < s.size) : body s i = none := by unfold body; rw [dif_neg h]
theorem body_mark {s : ByteArray} {i : Nat} (h : i < s.size) (hc : bt s i = 34) : body s i = some (i + 1, []) := by unfold body; rw [dif_pos h, if_pos hc]
theorem body_item {s : ByteArray} {i : Nat} (h : i < s.size) (hc : bt s i ≠ 34) : body s i = (item s i 34).bind fun q => (body s (i + q.1)).map fun p => (p.1, q.2 ++ p.2) := by
  have := loopZ_item (mark := 34) (k := 0) (Or.inl rfl) h hc
  unfold loopZ at this
  simpa using this
theorem raw_end {s : ByteArray} {i : Nat} (h : ¬ i < s.size) : raw s i = none := by unfold raw; rw [if_neg h]
theorem raw_mark {s : ByteArray} {i : Nat} (h : i < s.size) (hc : bt s i = 96) : raw s i = some (i + 1, []) := by unfold raw; rw [if_pos h, if_pos hc]
theorem raw_next {s : ByteArray} {i : Nat} (h : i < s.size) (hc : bt s i ≠ 96) : raw s i = (raw s (i + 1)).map fun p => (p.1, (if bt s i = 13 then [] else [(bt s i : Int)]) ++ p.2) := by rw [raw, if_pos h, if_neg hc]
theorem begun_single {s : ByteArray} {i : Nat} (hi : i < s.size) (hm : bt s i = 39) : begun s i = match single s (i + 1) with
    | none => (0, 0, ByteArray.empty, 4)
    | some (e, l) => (6, e, strOfNums l, 0) := by
  rw [begun_read hi (Or.inr hm), hm]
  unfold loopZ
  rw [if_neg (by decide), if_pos rfl]
  cases single s (i + 1) <;> rfl
theorem single_end {s : ByteArray} {i : Nat} (h : ¬ i < s.size) : single s i = none := by unfold single; rw [if_neg h]
theorem single_mark {s : ByteArray} {i : Nat} (h : i < s.size) (hc : bt s i = 39) : single s i = none := by unfold single; rw [if_pos h, if_pos hc]
theorem single_none {s : ByteArray} {i : Nat} (h : i < s.size) (hc : bt s i ≠ 39) (hit : item s i 39 = none) : single s i = none := by unfold single; rw [if_pos h, if_neg hc, hit]
theorem single_some {s : ByteArray} {i n : Nat} {l : List Int} (h : i < s.size) (hc : bt s i ≠ 39) (hit : item s i 39 = some (n, l)) : single s i = if i + n < s.size ∧ bt s (i + n) = 39 then some (i + n + 1, l) else none := by unfold single; rw [if_pos h, if_neg hc, hit]
end Go.Proofs.YtcnkcnalabjhgaaDoor
