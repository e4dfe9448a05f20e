/- Layer 6 in plain Lean: raw strings, by what the library's IndexByte and ReplaceAll answer. -/
import Derived.Test.YtcnkcnalabjhgaaDoorQuotedP
import Derived.Lib.Replace
namespace Go.Proofs.YtcnkcnalabjhgaaDoor
set_option linter.all false

theorem extract_data (s : ByteArray) (a b : Nat) : (s.extract a b).data.toList = (s.data.toList.drop a).take (b - a) := by
  rw [ByteArray.data_extract, Array.toList_extract, List.extract]
theorem index_eq (c : UInt8) (t : List UInt8) : Lib.index (c :: t) [c] = 0 := by
  unfold Lib.index
  rw [if_pos (by simp [List.isPrefixOf])]
theorem index_ne (b c : UInt8) (t : List UInt8) (h : b ≠ c) : Lib.index (b :: t) [c] = if Lib.index t [c] == -1 then -1 else Lib.index t [c] + 1 := by
  rw [Lib.index, if_neg]
  simp [List.isPrefixOf, Ne.symm h]
theorem replaceK_filter (c : UInt8) : ∀ (l : List UInt8) (k : Nat), l.count c = k → Lib.replaceK [c] [] k l = l.filter fun x => x != c
  | [], k, h => by
    obtain rfl : k = 0 := by simpa using h.symm
    rfl
  | b :: t, k, h => by
    by_cases hb : b = c
    · subst hb
      rw [List.count_cons_self] at h
      subst h
      rw [Lib.replaceK_hit [b] [] _ (b :: t) 0 (index_eq b t)]
      simp only [List.take_zero, List.nil_append, List.length_cons, List.length_nil, Nat.zero_add, List.drop_one, List.tail_cons]
      rw [replaceK_filter b t _ rfl]
      simp
    · rw [List.count_cons_of_ne hb] at h
      have ih := replaceK_filter c t k h
      cases k with
      | zero =>
        have h2 : (b :: t).filter (fun x => x != c) = b :: t := by
          rw [List.filter_eq_self]
          intro x hx
          rcases List.mem_cons.1 hx with rfl | hx
          · simp [hb]
          · have := List.count_eq_zero.1 h
            simp only [bne_iff_ne, ne_eq]
            rintro rfl
            exact this hx
        rw [h2]; rfl
      | succ k =>
        obtain ⟨i, hi⟩ := Lib.index_of_count (s := t) (old := [c]) (by rw [Lib.count_one]; omega)
        have h1 : Lib.index (b :: t) [c] = (i + 1 : Nat) := by
          rw [index_ne b c t hb, hi, if_neg (by simp)]; omega
        rw [Lib.replaceK_hit [c] [] k (b :: t) (i + 1) h1]
        rw [Lib.replaceK_hit [c] [] k t i hi] at ih
        simp only [List.take_succ_cons, List.append_nil, List.length_cons, List.length_nil, Nat.zero_add, List.cons_append, List.drop_succ_cons] at ih ⊢
        rw [ih, List.filter_cons_of_pos (by simp [hb])]
theorem replaceAll_filter (c : UInt8) (l : List UInt8) : Lib.replaceAll l [c] [] = l.filter fun x => x != c := by
  unfold Lib.replaceAll Lib.replace
  rw [if_neg (by simp)]
  unfold Lib.replaceNum
  rw [if_pos (Or.inl (by decide)), Lib.count_one]
  exact replaceK_filter c l _ rfl

def numsL (l : List UInt8) : List Int := l.map fun b => (b.toNat : Int)
theorem raw_index (s : ByteArray) : ∀ (l : List UInt8) (i : Nat), s.data.toList.drop i = l →
    raw s i = if Lib.indexByte l 96 < 0 then none else some (i + (Lib.indexByte l 96).toNat + 1, numsL ((l.take (Lib.indexByte l 96).toNat).filter fun x => x != 13))
  | [], i, h => by
    have hlen := congrArg List.length h
    rw [List.length_drop, ← size_data] at hlen
    unfold raw
    rw [if_neg (by simp at hlen; omega), if_pos (by decide)]
  | b :: t, i, h => by
    have hlen := congrArg List.length h
    rw [List.length_drop, ← size_data] at hlen
    have hi : i < s.size := by simp at hlen; omega
    have hb : bt s i = b.toNat := by
      unfold bt
      rw [get!_list]
      have h1 : (s.data.toList.drop i)[0]? = some b := by rw [h]; rfl
      rw [List.getElem?_drop, Nat.add_zero] at h1
      rw [List.getD_eq_getElem?_getD, h1]
      rfl
    have ht : s.data.toList.drop (i + 1) = t := by
      have : (s.data.toList.drop i).drop 1 = t := by rw [h]; rfl
      rwa [List.drop_drop] at this
    have ih := raw_index s t (i + 1) ht
    unfold raw
    rw [if_pos hi, hb, ih]
    have hge := Lib.indexByte_ge t 96
    by_cases h96 : b = 96
    · subst h96
      rw [if_pos (by decide)]
      have h0 : Lib.indexByte (96 :: t) 96 = 0 := by unfold Lib.indexByte; rw [if_pos (by decide)]
      rw [h0, if_neg (by decide)]
      simp [numsL]
    · have hn : b.toNat ≠ 96 := fun e => h96 (UInt8.toNat_inj.1 (by rw [e]; rfl))
      rw [if_neg hn]
      have h0 : Lib.indexByte (b :: t) 96 = if Lib.indexByte t 96 == -1 then -1 else Lib.indexByte t 96 + 1 := by
        rw [Lib.indexByte, if_neg (by simpa using h96)]
      rw [h0]
      by_cases hm : Lib.indexByte t 96 = -1
      · rw [hm]; rfl
      · have e2 : (if Lib.indexByte t 96 == -1 then (-1 : Int) else Lib.indexByte t 96 + 1) = Lib.indexByte t 96 + 1 := by rw [if_neg (by simpa using hm)]
        have hl1 : ¬ (Lib.indexByte t 96 < 0) := by omega
        have hl2 : ¬ (Lib.indexByte t 96 + 1 < 0) := by omega
        rw [e2, if_neg hl1, if_neg hl2]
        obtain ⟨k, hk⟩ : ∃ k : Nat, Lib.indexByte t 96 = k := ⟨_, (Int.toNat_of_nonneg (by omega)).symm⟩
        rw [hk]
        have e3 : ((k : Int) + 1).toNat = k + 1 := by omega
        rw [e3, Int.toNat_natCast]
        simp only [Option.map_some, List.take_succ_cons]
        congr 2
        · omega
        · unfold numsL
          by_cases h13 : b = 13
          · subst h13; simp
          · have hn13 : b.toNat ≠ 13 := fun e => h13 (UInt8.toNat_inj.1 (by rw [e]; rfl))
            rw [if_neg hn13, List.filter_cons_of_pos (by simpa using h13)]
            rfl
theorem strOfNums_numsL (l : List UInt8) : strOfNums (numsL l) = ⟨l.toArray⟩ := by
  have := strOfNums_nums ⟨l.toArray⟩
  unfold nums at this
  simpa [numsL] using this
/-- What the program does at a byte 96. -/
theorem raw_prog (s : ByteArray) (i : Nat) : raw s i = if Lib.indexByte (s.extract i s.size).data.toList 96 < 0 then none else
    some (i + (Lib.indexByte (s.extract i s.size).data.toList 96).toNat + 1, numsL (Lib.replaceAll (s.extract i (i + (Lib.indexByte (s.extract i s.size).data.toList 96).toNat)).data.toList [13] [])) := by
  have e : (s.extract i s.size).data.toList = s.data.toList.drop i := by
    rw [extract_data, List.take_of_length_le]
    rw [List.length_drop, ← size_data]; omega
  rw [raw_index s _ i rfl, e, replaceAll_filter, extract_data, Nat.add_sub_cancel_left]
theorem index_small (c : UInt8) : ∀ l : List UInt8, Lib.indexByte l c = -1 ∨ Lib.indexByte l c < l.length
  | [] => Or.inl rfl
  | b :: t => by
    have ih := index_small c t
    unfold Lib.indexByte
    by_cases h : (b == c) = true
    · rw [if_pos h]; right; simp only [List.length_cons]; omega
    · rw [if_neg h]
      by_cases h2 : (Lib.indexByte t c == -1) = true
      · rw [if_pos h2]; exact Or.inl rfl
      · rw [if_neg h2]
        right
        simp only [List.length_cons]
        have h3 : Lib.indexByte t c ≠ -1 := by simpa using h2
        omega
end Go.Proofs.YtcnkcnalabjhgaaDoor
