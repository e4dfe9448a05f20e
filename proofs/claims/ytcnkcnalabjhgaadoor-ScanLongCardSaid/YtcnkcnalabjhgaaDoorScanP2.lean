/- Layer 7 in plain Lean: what the library's functions answer, in the words of the lexemes. -/
import Derived.Test.YtcnkcnalabjhgaaDoorScanP
import Derived.Test.YtcnkcnalabjhgaaDoorQuotedP2
import Derived.Lib.SlTrimSet
namespace Go.Proofs.YtcnkcnalabjhgaaDoor
set_option linter.all false

theorem drop_len {s : ByteArray} {i : Nat} {l : List UInt8} (h : s.data.toList.drop i = l) : s.size - i = l.length := by
  have := congrArg List.length h
  rw [List.length_drop, ← size_data] at this
  exact this
theorem drop_head {s : ByteArray} {i : Nat} {b : UInt8} {t : List UInt8} (h : s.data.toList.drop i = b :: t) : i < s.size ∧ bt s i = b.toNat ∧ s.data.toList.drop (i + 1) = t := by
  have hlen := drop_len h
  refine ⟨by simp at hlen; omega, ?_, ?_⟩
  · unfold bt
    rw [get!_list]
    have h1 : (s.data.toList.drop i)[0]? = some b := by rw [h]; rfl
    rw [List.getElem?_drop, Nat.add_zero] at h1
    rw [List.getD_eq_getElem?_getD, h1]
    rfl
  · have : (s.data.toList.drop i).drop 1 = t := by rw [h]; rfl
    rwa [List.drop_drop] at this
theorem extract_tail (s : ByteArray) (i : Nat) : (s.extract i s.size).data.toList = s.data.toList.drop i := by
  rw [extract_data, List.take_of_length_le]
  rw [List.length_drop, ← size_data]; omega
theorem blankTo_le (s : ByteArray) (i : Nat) (h : i ≤ s.size) : i ≤ blankTo s i ∧ blankTo s i ≤ s.size := by
  by_cases hc : i < s.size ∧ blankB (bt s i) = true
  · rw [blankTo, if_pos hc]
    have := blankTo_le s (i + 1) (by omega)
    omega
  · rw [blankTo, if_neg hc]; omega
termination_by s.size - i
decreasing_by omega
theorem lineTo_le (s : ByteArray) (i : Nat) (h : i ≤ s.size) : i ≤ lineTo s i ∧ lineTo s i ≤ s.size := by
  by_cases hc : i < s.size ∧ bt s i ≠ 10
  · rw [lineTo, if_pos hc]
    have := lineTo_le s (i + 1) (by omega)
    omega
  · rw [lineTo, if_neg hc]; omega
termination_by s.size - i
decreasing_by omega
theorem blockTo_le (s : ByteArray) (i e : Nat) (h : blockTo s i = some e) : i + 2 ≤ e ∧ e ≤ s.size := by
  rw [blockTo] at h
  split at h
  · split at h
    · cases h; omega
    · have := blockTo_le s (i + 1) e h
      omega
  · cases h
termination_by s.size - i
decreasing_by omega
theorem wordTo_le (s : ByteArray) (i : Nat) (h : i ≤ s.size) : i ≤ wordTo s i ∧ wordTo s i ≤ s.size := by
  by_cases hc : i < s.size ∧ inWord s i = true
  · rw [wordTo, dif_pos hc]
    have hw := rd_width s i
    have h0 : (rd s i).2 ≠ 0 := by have := hc.2; unfold inWord at this; simp at this; exact this.1
    have := wordTo_le s (i + (rd s i).2) (by omega)
    omega
  · rw [wordTo, dif_neg hc]; omega
termination_by s.size - i
decreasing_by omega
def blanks : List UInt8 := [32, 9, 13, 10]
theorem blanks_has (b : UInt8) : blanks.contains b = blankB b.toNat := by
  have h : ∀ n : Nat, n < 256 → (blanks.contains (UInt8.ofNat n)) = blankB n := by decide +kernel
  have := h b.toNat b.toNat_lt
  rw [UInt8.ofNat_toNat] at this
  exact this
theorem blank_trim_l (s : ByteArray) : ∀ (l : List UInt8) (i : Nat), s.data.toList.drop i = l → i ≤ s.size → (Lib.trimLeftS l blanks).length + blankTo s i = s.size
  | [], i, h, hi => by
    have hlen := drop_len h
    rw [blankTo, if_neg (by simp at hlen; omega)]
    simp [Lib.trimLeftS] at hlen ⊢
    omega
  | b :: t, i, h, hi => by
    obtain ⟨h1, h2, h3⟩ := drop_head h
    have hlen := drop_len h
    have ih := blank_trim_l s t (i + 1) h3 (by omega)
    rw [blankTo, h2, ← blanks_has]
    by_cases hb : blanks.contains b = true
    · rw [if_pos ⟨h1, hb⟩]
      unfold Lib.trimLeftS at ih ⊢
      rw [List.dropWhile_cons_of_pos hb]
      exact ih
    · rw [if_neg (fun hh => hb hh.2)]
      unfold Lib.trimLeftS
      rw [List.dropWhile_cons_of_neg hb]
      omega
theorem blank_trim (s : ByteArray) (i : Nat) (hi : i ≤ s.size) : (Lib.trimLeftS (s.extract i s.size).data.toList blanks).length + blankTo s i = s.size := by
  rw [extract_tail]
  exact blank_trim_l s _ i rfl hi
theorem line_index_l (s : ByteArray) : ∀ (l : List UInt8) (i : Nat), s.data.toList.drop i = l → i ≤ s.size → lineTo s i = if Lib.indexByte l 10 < 0 then s.size else i + (Lib.indexByte l 10).toNat
  | [], i, h, hi => by
    have hlen := drop_len h
    rw [lineTo, if_neg (by simp at hlen; omega), if_pos (by decide)]
    simp at hlen; omega
  | b :: t, i, h, hi => by
    obtain ⟨h1, h2, h3⟩ := drop_head h
    have ih := line_index_l s t (i + 1) h3 (by omega)
    rw [lineTo, h2]
    have hge := Lib.indexByte_ge t 10
    by_cases hb : b = 10
    · subst hb
      have h0 : Lib.indexByte (10 :: t) 10 = 0 := by unfold Lib.indexByte; rw [if_pos (by decide)]
      rw [if_neg (fun hh => hh.2 rfl), h0]; rfl
    · have hn : b.toNat ≠ 10 := fun e => hb (UInt8.toNat_inj.1 (by rw [e]; rfl))
      have h0 : Lib.indexByte (b :: t) 10 = if Lib.indexByte t 10 == -1 then -1 else Lib.indexByte t 10 + 1 := by
        rw [Lib.indexByte, if_neg (by simpa using hb)]
      rw [if_pos ⟨h1, hn⟩, ih, h0]
      by_cases hm : Lib.indexByte t 10 = -1
      · rw [hm]; rfl
      · have e2 : (if Lib.indexByte t 10 == -1 then (-1 : Int) else Lib.indexByte t 10 + 1) = Lib.indexByte t 10 + 1 := by rw [if_neg (by simpa using hm)]
        rw [e2, if_neg (by omega), if_neg (by omega)]
        omega
theorem line_index (s : ByteArray) (i : Nat) (hi : i ≤ s.size) : lineTo s i = if Lib.indexByte (s.extract i s.size).data.toList 10 < 0 then s.size else i + (Lib.indexByte (s.extract i s.size).data.toList 10).toNat := by
  rw [extract_tail]
  exact line_index_l s _ i rfl hi
theorem block_index_l (s : ByteArray) : ∀ (l : List UInt8) (i : Nat), s.data.toList.drop i = l → i ≤ s.size → blockTo s i = if Lib.index l [42, 47] < 0 then none else some (i + (Lib.index l [42, 47]).toNat + 2)
  | [], i, h, hi => by
    have hlen := drop_len h
    rw [blockTo, if_neg (by simp at hlen; omega), if_pos (by decide)]
  | b :: t, i, h, hi => by
    obtain ⟨h1, h2, h3⟩ := drop_head h
    have hlen := drop_len h
    have ih := block_index_l s t (i + 1) h3 (by omega)
    have hge := Lib.index_ge t [42, 47]
    rw [blockTo, h2]
    have key : (b.toNat = 42 ∧ i + 1 < s.size ∧ bt s (i + 1) = 47) ↔ ([42, 47] : List UInt8).isPrefixOf (b :: t) = true := by
      cases t with
      | nil =>
        simp at hlen
        constructor
        · rintro ⟨_, h, _⟩; omega
        · intro h; simp [List.isPrefixOf] at h
      | cons d t =>
        obtain ⟨g1, g2, _⟩ := drop_head h3
        rw [g2]
        simp only [List.isPrefixOf, Bool.and_true, Bool.and_eq_true, beq_iff_eq]
        constructor
        · rintro ⟨e1, _, e2⟩
          exact ⟨(UInt8.toNat_inj.1 (by rw [e1]; rfl)), (UInt8.toNat_inj.1 (by rw [e2]; rfl))⟩
        · rintro ⟨rfl, rfl⟩; exact ⟨rfl, g1, rfl⟩
    rw [Lib.index]
    by_cases hp : ([42, 47] : List UInt8).isPrefixOf (b :: t) = true
    · obtain ⟨k1, k2, k3⟩ := key.2 hp
      rw [if_pos k2, if_pos ⟨k1, k3⟩, if_pos hp]; rfl
    · rw [if_neg hp]
      have e : (if i + 1 < s.size then if b.toNat = 42 ∧ bt s (i + 1) = 47 then some (i + 2) else blockTo s (i + 1) else none) = blockTo s (i + 1) := by
        by_cases hl : i + 1 < s.size
        · rw [if_pos hl, if_neg (fun hh => hp (key.1 ⟨hh.1, hl, hh.2⟩))]
        · rw [if_neg hl, blockTo, if_neg (by omega)]
      rw [e, ih]
      by_cases hm : Lib.index t [42, 47] = -1
      · rw [hm]; rfl
      · have e2 : (if Lib.index t [42, 47] == -1 then (-1 : Int) else Lib.index t [42, 47] + 1) = Lib.index t [42, 47] + 1 := by rw [if_neg (by simpa using hm)]
        rw [e2, if_neg (by omega), if_neg (by omega)]
        congr 1; omega
theorem block_index (s : ByteArray) (i : Nat) (hi : i ≤ s.size) : blockTo s i = if Lib.index (s.extract i s.size).data.toList [42, 47] < 0 then none else some (i + (Lib.index (s.extract i s.size).data.toList [42, 47]).toNat + 2) := by
  rw [extract_tail]
  exact block_index_l s _ i rfl hi
theorem prefix2 (s : ByteArray) (i : Nat) (c d : UInt8) : Lib.hasPrefix (s.extract i s.size).data.toList [c, d] = decide (i + 1 < s.size ∧ bt s i = c.toNat ∧ bt s (i + 1) = d.toNat) := by
  rw [extract_tail, Bool.eq_iff_iff, decide_eq_true_eq]
  unfold Lib.hasPrefix
  cases h : s.data.toList.drop i with
  | nil =>
    have := drop_len h
    simp at this
    simp [List.isPrefixOf]; omega
  | cons b t =>
    obtain ⟨h1, h2, h3⟩ := drop_head h
    cases ht : t with
    | nil =>
      rw [ht] at h3
      have := drop_len h3
      simp at this
      simp [List.isPrefixOf]; omega
    | cons e t' =>
      rw [ht] at h3
      obtain ⟨g1, g2, _⟩ := drop_head h3
      rw [h2, g2]
      simp only [List.isPrefixOf, Bool.and_true, Bool.and_eq_true, beq_iff_eq]
      constructor
      · rintro ⟨rfl, rfl⟩; exact ⟨g1, rfl, rfl⟩
      · rintro ⟨_, e1, e2⟩; exact ⟨(UInt8.toNat_inj.1 e1).symm, (UInt8.toNat_inj.1 e2).symm⟩
end Go.Proofs.YtcnkcnalabjhgaaDoor
