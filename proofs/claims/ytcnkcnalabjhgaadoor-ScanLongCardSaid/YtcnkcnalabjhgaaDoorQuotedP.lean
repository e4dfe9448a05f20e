/- Layer 6 in plain Lean: items, texts in marks, quoting; no program in sight. -/
import Derived.Test.YtcnkcnalabjhgaaDoorClassP
namespace Go.Proofs.YtcnkcnalabjhgaaDoor
set_option linter.all false

/-- The bytes of a text, as numbers. -/
def nums (s : ByteArray) : List Int := s.data.toList.map fun b => (b.toNat : Int)
theorem strOfNums_nums (s : ByteArray) : strOfNums (nums s) = s := by
  apply ByteArray.ext
  apply Array.ext'
  rw [strOfNums_data]
  unfold nums
  rw [List.map_map]
  conv => rhs; rw [← List.map_id s.data.toList]
  apply List.map_congr_left
  intro b _
  simp
theorem nums_length (s : ByteArray) : (nums s).length = s.size := by unfold nums; rw [List.length_map, ← size_data]
theorem nums_byte (s : ByteArray) : ∀ x ∈ nums s, 0 ≤ x ∧ x < 256 := by
  intro x hx
  unfold nums at hx
  rw [List.mem_map] at hx
  obtain ⟨b, _, rfl⟩ := hx
  have := b.toNat_lt
  omega
theorem nums_append (s t : ByteArray) : nums (s ++ t) = nums s ++ nums t := by unfold nums; rw [data_append, List.map_append]
theorem nums_strOfNums (l : List Int) (h : ∀ x ∈ l, 0 ≤ x ∧ x < 256) : nums (strOfNums l) = l := by
  unfold nums
  rw [strOfNums_data, List.map_map]
  conv => rhs; rw [← List.map_id l]
  apply List.map_congr_left
  intro x hx
  have := h x hx
  simp only [Function.comp, id]
  rw [toNat_ofNat_lt _ (by omega)]
  omega

/-- Digits of a base. -/
def num (s : ByteArray) (b : Int) : Nat → Nat → Int → Option Int
  | _, 0, n => some n
  | i, c + 1, n => if i < s.size ∧ 0 ≤ base (bt s i) ∧ base (bt s i) < b then num s b (i + 1) c (n * b + base (bt s i)) else none
theorem base_range (r : Int) : -1 ≤ base r ∧ base r < 16 := by
  unfold base
  split
  · omega
  · split
    · omega
    · split <;> omega
theorem num_range (s : ByteArray) (b : Int) (hb : 0 < b) : ∀ (c i : Nat) (n m : Int), 0 ≤ n → num s b i c n = some m → 0 ≤ m ∧ m < (n + 1) * b ^ c ∧ i + c ≤ max i s.size
  | 0, i, n, m, hn, h => by
    unfold num at h
    obtain rfl := Option.some.inj h
    refine ⟨hn, ?_, by omega⟩
    rw [Int.pow_zero]; omega
  | c + 1, i, n, m, hn, h => by
    unfold num at h
    split at h
    · rename_i hc
      obtain ⟨h1, h2, h3⟩ := hc
      obtain ⟨g1, g2, g3⟩ := num_range s b hb c (i + 1) _ m (by have := Int.mul_nonneg hn (Int.le_of_lt hb); omega) h
      refine ⟨g1, Int.lt_of_lt_of_le g2 ?_, by omega⟩
      rw [Int.pow_succ, Int.mul_comm (b ^ c) b, ← Int.mul_assoc]
      apply Int.mul_le_mul_of_nonneg_right
      · rw [Int.add_mul]; omega
      · exact Int.le_of_lt (Int.pow_pos hb)
    · cases h

def escNames : List Nat := [97, 98, 102, 110, 114, 116, 118, 92]
def escSays : List Int := [7, 8, 12, 10, 13, 9, 11, 92]
/-- What a number below 256 says. -/
def small (n : Int) (mark : Nat) : List Int := if mark = 34 then [n] else formZ n
/-- The item that begins with the backslash at a place: how many bytes it has, what it says. -/
def esc (s : ByteArray) (i mark : Nat) : Option (Nat × List Int) :=
  if s.size ≤ i + 1 then none
  else if escNames.idxOf (bt s (i + 1)) < 8 then some (2, [escSays.getD (escNames.idxOf (bt s (i + 1))) 0])
  else if bt s (i + 1) = mark then some (2, [(bt s (i + 1) : Int)])
  else if bt s (i + 1) = 120 then (num s 16 (i + 2) 2 0).map fun n => (4, small n mark)
  else if bt s (i + 1) = 117 ∨ bt s (i + 1) = 85 then
    (num s 16 (i + 2) (if bt s (i + 1) = 85 then 8 else 4) 0).bind fun n => if may n then some (2 + (if bt s (i + 1) = 85 then 8 else 4), formZ n) else none
  else (num s 8 (i + 1) 3 0).bind fun n => if 255 < n then none else some (4, small n mark)
/-- The item at a place within marks. -/
def item (s : ByteArray) (i mark : Nat) : Option (Nat × List Int) :=
  if bt s i = 92 then esc s i mark
  else if bt s i = 10 then none
  else if mark = 34 then some (1, [(bt s i : Int)])
  else if (rd s i).2 = 0 then none
  else some ((rd s i).2, nums (s.extract i (i + (rd s i).2)))
theorem esc_pos {s : ByteArray} {i mark n : Nat} {l : List Int} (h : esc s i mark = some (n, l)) : 2 ≤ n ∧ i + n ≤ s.size := by
  unfold esc at h
  split at h
  · cases h
  · split at h
    · cases h; omega
    · split at h
      · cases h; omega
      · split at h
        · cases hn : num s 16 (i + 2) 2 0 with
          | none => rw [hn] at h; cases h
          | some v =>
            rw [hn] at h
            have := num_range s 16 (by omega) 2 (i + 2) 0 v (by omega) hn
            cases h; omega
        · split at h
          · cases hn : num s 16 (i + 2) (if bt s (i + 1) = 85 then 8 else 4) 0 with
            | none => rw [hn] at h; cases h
            | some v =>
              rw [hn] at h
              have := num_range s 16 (by omega) _ (i + 2) 0 v (by omega) hn
              simp only [Option.bind_some] at h
              split at h
              · cases h; split at this <;> simp_all <;> omega
              · cases h
          · cases hn : num s 8 (i + 1) 3 0 with
            | none => rw [hn] at h; cases h
            | some v =>
              rw [hn] at h
              have := num_range s 8 (by omega) 3 (i + 1) 0 v (by omega) hn
              simp only [Option.bind_some] at h
              split at h
              · cases h
              · cases h; omega
theorem item_pos {s : ByteArray} {i mark n : Nat} {l : List Int} (hi : i < s.size) (h : item s i mark = some (n, l)) : 1 ≤ n ∧ i + n ≤ s.size := by
  unfold item at h
  split at h
  · have := esc_pos h; omega
  · split at h
    · cases h
    · split at h
      · cases h; omega
      · split at h
        · cases h
        · rename_i h0
          cases h
          have := rd_width s i
          omega
/-- A string from behind its first mark on: where it ends (behind the mark), what it says. -/
def body (s : ByteArray) (i : Nat) : Option (Nat × List Int) :=
  if hi : i < s.size then
    if bt s i = 34 then some (i + 1, [])
    else match h : item s i 34 with
      | none => none
      | some (n, l) => (body s (i + n)).map fun p => (p.1, l ++ p.2)
  else none
termination_by s.size - i
decreasing_by have := item_pos hi h; omega
/-- The first byte 96 from a place on, and what stands before it without the bytes that are 13. -/
def raw (s : ByteArray) (i : Nat) : Option (Nat × List Int) :=
  if i < s.size then
    if bt s i = 96 then some (i + 1, [])
    else (raw s (i + 1)).map fun p => (p.1, (if bt s i = 13 then [] else [(bt s i : Int)]) ++ p.2)
  else none
termination_by s.size - i
/-- A character in marks, from behind its first mark on. -/
def single (s : ByteArray) (i : Nat) : Option (Nat × List Int) :=
  if i < s.size then
    if bt s i = 39 then none
    else match item s i 39 with
      | none => none
      | some (n, l) => if i + n < s.size ∧ bt s (i + n) = 39 then some (i + n + 1, l) else none
  else none
/-- What begins at a place: kind, end, what it says, error. -/
def begunAt (s : ByteArray) (i : Nat) : Int × Int × ByteArray × Int :=
  if bt s i = 96 then match raw s (i + 1) with
    | none => (0, 0, ByteArray.empty, 4)
    | some (e, l) => (7, e, strOfNums l, 0)
  else if bt s i = 34 then match body s (i + 1) with
    | none => (0, 0, ByteArray.empty, 4)
    | some (e, l) => (7, e, strOfNums l, 0)
  else match single s (i + 1) with
    | none => (0, 0, ByteArray.empty, 4)
    | some (e, l) => (6, e, strOfNums l, 0)
def isMark (b : Nat) : Bool := b == 39 || b == 34 || b == 96
@[irreducible] def begun (s : ByteArray) (at' : Int) : Int × Int × ByteArray × Int :=
  if at' < 0 ∨ (s.size : Int) ≤ at' then (0, 0, ByteArray.empty, 15)
  else if isMark (bt s at'.toNat) then begunAt s at'.toNat else (0, 0, ByteArray.empty, 15)
/-- What a text in marks says, and whether it is one. -/
@[irreducible] def value (s : ByteArray) : ByteArray × Int :=
  if (begun s 0).2.2.2 = 0 ∧ (begun s 0).2.1 = s.size then ((begun s 0).2.2.1, 0) else (ByteArray.empty, 4)
def hexZ (n : Nat) : Int := if n < 10 then 48 + n else 87 + n
def quoteByte (c : Nat) : List Int :=
  if c = 10 then [92, 110] else if c = 34 ∨ c = 92 then [92, (c : Int)] else if 32 ≤ c ∧ c ≤ 126 then [(c : Int)]
  else [92, 120, hexZ (c / 16), hexZ (c % 16)]
def quoteZ (s : ByteArray) : List Int := [34] ++ s.data.toList.flatMap (fun b => quoteByte b.toNat) ++ [34]
@[irreducible] def quote (s : ByteArray) : ByteArray := strOfNums (quoteZ s)
end Go.Proofs.YtcnkcnalabjhgaaDoor
