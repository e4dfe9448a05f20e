/- Layer 6 in plain Lean: raw strings say their bytes, but those that are 13. -/
import Derived.Test.YtnnfkdjmpbgkaaaDoorRef06e
namespace Go.Proofs.YtnnfkdjmpbgkaaaDoor
set_option linter.all false

def insideL (l : List UInt8) : List UInt8 := l.filter fun x => x != 96
def saysL (l : List UInt8) : List UInt8 := (insideL l).filter fun x => x != 13
theorem index_append : ∀ l : List UInt8, (∀ x ∈ l, x ≠ 96) → Lib.indexByte (l ++ [96]) 96 = l.length
  | [], _ => rfl
  | b :: t, h => by
    have hb : b ≠ 96 := h b (List.mem_cons_self ..)
    have ih := index_append t fun x hx => h x (List.mem_cons_of_mem _ hx)
    rw [List.cons_append, Lib.indexByte, if_neg (by simpa using hb), ih, if_neg (by simp), List.length_cons]
    omega
theorem raw_value (l : List UInt8) (h : ∀ x ∈ l, x ≠ 96) (t : ByteArray) (ht : t.data.toList = 96 :: (l ++ [96])) : value t = (⟨(l.filter fun x => x != 13).toArray⟩, 0) := by
  have hsz : t.size = l.length + 2 := by rw [size_data, ht]; simp
  have h0 : bt t 0 = 96 := by unfold bt; rw [get!_list, ht]; rfl
  have hr := raw_index t (l ++ [96]) 1 (by rw [ht]; rfl)
  rw [index_append l h, if_neg (by omega), Int.toNat_natCast, List.take_left] at hr
  have hb := begun_raw (s := t) (i := 0) (by omega) h0
  rw [hr] at hb
  unfold value
  have e : begun t 0 = (7, ((1 + l.length + 1 : Nat) : Int), strOfNums (numsL (l.filter fun x => x != 13)), 0) := hb
  rw [e, if_pos ⟨rfl, by simp only []; omega⟩, strOfNums_numsL]
theorem insideL_ne (l : List UInt8) : ∀ x ∈ insideL l, x ≠ 96 := by
  intro x hx
  unfold insideL at hx
  simpa using (List.mem_filter.1 hx).2
theorem take_inside (s : ByteArray) (k : Nat) (h : k < s.size) (hl : k < s.data.toList.length) : insideL (s.data.toList.take (k + 1)) = insideL (s.data.toList.take k) ++ (if bt s k = 96 then [] else [s.data.toList[k]]) := by
  have e : (s.data.toList[k]).toNat = bt s k := by unfold bt; rw [get!_list, List.getD_eq_getElem?_getD, List.getElem?_eq_getElem hl]; rfl
  unfold insideL
  rw [List.take_succ_eq_append_getElem hl, List.filter_append]
  congr 1
  by_cases h96 : bt s k = 96
  · rw [if_pos h96, List.filter_cons_of_neg]
    · rfl
    · have : s.data.toList[k] = 96 := UInt8.toNat_inj.1 (by rw [e, h96]; rfl)
      simp [this]
  · rw [if_neg h96, List.filter_cons_of_pos]
    · rfl
    · have : s.data.toList[k] ≠ 96 := fun hh => h96 (by rw [← e, hh]; rfl)
      simpa using this
theorem take_says (s : ByteArray) (k : Nat) (h : k < s.size) (hl : k < s.data.toList.length) : saysL (s.data.toList.take (k + 1)) = saysL (s.data.toList.take k) ++ (if bt s k = 96 ∨ bt s k = 13 then [] else [s.data.toList[k]]) := by
  have e : (s.data.toList[k]).toNat = bt s k := by unfold bt; rw [get!_list, List.getD_eq_getElem?_getD, List.getElem?_eq_getElem hl]; rfl
  unfold saysL
  rw [take_inside s k h hl, List.filter_append]
  congr 1
  by_cases h96 : bt s k = 96
  · rw [if_pos h96, if_pos (Or.inl h96)]; rfl
  · rw [if_neg h96]
    by_cases h13 : bt s k = 13
    · rw [if_pos (Or.inr h13), List.filter_cons_of_neg]
      · rfl
      · have : s.data.toList[k] = 13 := UInt8.toNat_inj.1 (by rw [e, h13]; rfl)
        simp [this]
    · rw [if_neg (by omega), List.filter_cons_of_pos]
      · rfl
      · have : s.data.toList[k] ≠ 13 := fun hh => h13 (by rw [← e, hh]; rfl)
        simpa using this
end Go.Proofs.YtnnfkdjmpbgkaaaDoor
