/- Layer 1 in plain Lean, further: forms are read as they are; texts one behind the other; characters and texts, there and back. -/
import Derived.Test.YtbhicblkgjgenaaGreatDoorU8M
import Derived.Laws.Concat
namespace Go.Proofs.YtbhicblkgjgenaaGreatDoor

theorem size_data (s : ByteArray) : s.size = s.data.toList.length := (Array.length_toList (xs := s.data)).symm
theorem get!_list (s : ByteArray) (i : Nat) : s.get! i = s.data.toList.getD i 0 := by
  by_cases h : i < s.size
  · rw [get!_lt s i h]
    have h2 : i < s.data.toList.length := by rw [← size_data]; exact h
    rw [List.getD_eq_getElem?_getD, List.getElem?_eq_getElem h2]; rfl
  · rw [get!_ge s i (by omega), List.getD_eq_getElem?_getD, List.getElem?_eq_none (by rw [← size_data]; omega)]; rfl
theorem data_append (s t : ByteArray) : (s ++ t).data.toList = s.data.toList ++ t.data.toList := by
  simp [ByteArray.data_append]
theorem get!_left (s t : ByteArray) (i : Nat) (h : i < s.size) : (s ++ t).get! i = s.get! i := by
  rw [get!_list, get!_list, data_append, List.getD_eq_getElem?_getD, List.getD_eq_getElem?_getD, List.getElem?_append_left (by rw [← size_data]; exact h)]
theorem get!_right (s t : ByteArray) (i : Nat) : (s ++ t).get! (s.size + i) = t.get! i := by
  rw [get!_list, get!_list, data_append, List.getD_eq_getElem?_getD, List.getD_eq_getElem?_getD, List.getElem?_append_right (by rw [← size_data]; omega), ← size_data]
  congr 2; omega
theorem form_data (r : Int) : (form r).data.toList = (formZ r).map fun x => UInt8.ofNat x.toNat := by unfold form; exact strOfNums_data _
theorem form_size (r : Int) : (form r).size = (formZ r).length := by unfold form; exact strOfNums_size _
theorem bt_form (r : Int) (k : Nat) (x : Int) (h : (formZ r)[k]? = some x) (h0 : 0 ≤ x) (h1 : x < 256) : (bt (form r) k : Int) = x := by
  unfold bt
  rw [get!_list, form_data, List.getD_eq_getElem?_getD, List.getElem?_map, h]
  simp only [Option.map_some, Option.getD_some]
  rw [toNat_ofNat_lt _ (by omega)]; omega

/-- WHERE A CHARACTER's FORM STANDS, THAT CHARACTER IS READ. -/
theorem form_read (t : ByteArray) (i : Nat) (r : Int) (hm : may r = true) (hsz : i + (form r).size ≤ t.size) (hb : ∀ k, k < (form r).size → t.get! (i + k) = (form r).get! k) :
    rd t i = (r.toNat, (form r).size) := by
  have hr := (may_iff r).1 hm
  have hbt : ∀ k, k < (form r).size → bt t (i + k) = bt (form r) k := fun k hk => by unfold bt; rw [hb k hk]
  have hv : ∀ n, n = (form r).size → 1 ≤ n → n ≤ 4 → refV t i n = r.toNat → rd t i = (r.toNat, (form r).size) := by
    intro n hn h1 h4 hv
    have ht : refTry t i n = true := by
      unfold refTry
      rw [hv, Int.toNat_of_nonneg hr.1, beq_iff_eq, ByteArray.toList_eq, ByteArray.toList_eq]
      apply List.ext_getElem?
      intro k
      by_cases hk : k < n
      · have e1 : (form r).data.toList[k]? = some ((form r).get! k) := by
          have hk2 : k < (form r).data.toList.length := by rw [← size_data]; omega
          rw [get!_list, List.getD_eq_getElem?_getD, List.getElem?_eq_getElem hk2]; rfl
        have hsz2 : (t.extract i (i + n)).size = n := by simp; omega
        have e2 : (t.extract i (i + n)).data.toList[k]? = some ((t.extract i (i + n)).get! k) := by
          have hk2 : k < (t.extract i (i + n)).data.toList.length := by rw [← size_data]; omega
          rw [get!_list, List.getD_eq_getElem?_getD, List.getElem?_eq_getElem hk2]; rfl
        rw [e1, e2, get!_extract t i (i + n) k (by omega) (by omega), hb k (by omega)]
      · have hsz2 : (t.extract i (i + n)).size = n := by simp; omega
        rw [List.getElem?_eq_none (by rw [← size_data]; omega), List.getElem?_eq_none (by rw [← size_data]; omega)]
    rw [rd_try t i n h1 h4 (by omega) ht, hv, hn]
  have b0 := hbt 0; have b1 := hbt 1; have b2 := hbt 2; have b3 := hbt 3
  rw [Nat.add_zero] at b0
  have hs := form_size r
  by_cases h1 : r < 128
  · have hz : formZ r = [r] := by unfold formZ; rw [if_neg (by simp [hm]), if_pos h1]
    rw [hz] at hs
    refine hv 1 hs.symm (by omega) (by omega) ?_
    have f0 := bt_form r 0 r (by rw [hz]; rfl) (by omega) (by omega)
    simp only [List.length_cons, List.length_nil] at hs
    have := b0 (by omega)
    rw [refV_1]; omega
  · by_cases h2 : r < 2048
    · have hz : formZ r = [192 + r / 64, 128 + r % 64] := by unfold formZ; rw [if_neg (by simp [hm]), if_neg h1, if_pos h2]
      rw [hz] at hs
      refine hv 2 hs.symm (by omega) (by omega) ?_
      have f0 := bt_form r 0 (192 + r / 64) (by rw [hz]; rfl) (by omega) (by omega)
      have f1 := bt_form r 1 (128 + r % 64) (by rw [hz]; rfl) (by omega) (by omega)
      simp only [List.length_cons, List.length_nil] at hs
      have := b0 (by omega); have := b1 (by omega)
      rw [refV_2]; omega
    · by_cases h3 : r < 65536
      · have hz : formZ r = [224 + r / 4096, 128 + r / 64 % 64, 128 + r % 64] := by unfold formZ; rw [if_neg (by simp [hm]), if_neg h1, if_neg h2, if_pos h3]
        rw [hz] at hs
        refine hv 3 hs.symm (by omega) (by omega) ?_
        have f0 := bt_form r 0 (224 + r / 4096) (by rw [hz]; rfl) (by omega) (by omega)
        have f1 := bt_form r 1 (128 + r / 64 % 64) (by rw [hz]; rfl) (by omega) (by omega)
        have f2 := bt_form r 2 (128 + r % 64) (by rw [hz]; rfl) (by omega) (by omega)
        simp only [List.length_cons, List.length_nil] at hs
        have := b0 (by omega); have := b1 (by omega); have := b2 (by omega)
        rw [refV_3]; omega
      · have hz : formZ r = [240 + r / 262144, 128 + r / 4096 % 64, 128 + r / 64 % 64, 128 + r % 64] := by unfold formZ; rw [if_neg (by simp [hm]), if_neg h1, if_neg h2, if_neg h3]
        rw [hz] at hs
        refine hv 4 hs.symm (by omega) (by omega) ?_
        have f0 := bt_form r 0 (240 + r / 262144) (by rw [hz]; rfl) (by omega) (by omega)
        have f1 := bt_form r 1 (128 + r / 4096 % 64) (by rw [hz]; rfl) (by omega) (by omega)
        have f2 := bt_form r 2 (128 + r / 64 % 64) (by rw [hz]; rfl) (by omega) (by omega)
        have f3 := bt_form r 3 (128 + r % 64) (by rw [hz]; rfl) (by omega) (by omega)
        simp only [List.length_cons, List.length_nil] at hs
        have := b0 (by omega); have := b1 (by omega); have := b2 (by omega); have := b3 (by omega)
        rw [refV_4]; omega
theorem form_pos {r : Int} (hm : may r = true) : 1 ≤ (form r).size := by
  rw [form_size]; unfold formZ; rw [if_neg (by simp [hm])]
  repeat' split
  all_goals simp

/-- A character stays where another text is put behind. -/
theorem rd_left (s t : ByteArray) (i : Nat) (hi : i < s.size) (h : (rd s i).2 ≠ 0) : rd (s ++ t) i = rd s i := by
  rcases rd_cases s i hi with ⟨h1, _⟩ | ⟨h1, h2, h3, h4, h5, h6⟩
  · exact absurd (by rw [h1]) h
  · have hs : (form (rd s i).1).size = (rd s i).2 := by rw [h5]; simp; omega
    rw [form_read (s ++ t) i (rd s i).1 h4 (by rw [hs, ByteArray.size_append]; omega) ?_, hs]
    · simp
    · intro k hk
      rw [get!_left s t (i + k) (by omega), h5, get!_extract s i _ k (by omega) h3]
theorem bt_right (s t : ByteArray) (i : Nat) : bt (s ++ t) (s.size + i) = bt t i := by unfold bt; rw [get!_right]
theorem rd_right (s t : ByteArray) (i : Nat) : rd (s ++ t) (s.size + i) = rd t i := by
  have hd : Utf8.decode (s ++ t) (s.size + i) = Utf8.decode t i := by
    rw [decode_bt, decode_bt, ByteArray.size_append]
    simp only [Nat.add_assoc, bt_right]
    rw [show s.size + t.size - (s.size + i) = t.size - i by omega]
  unfold rd
  rw [hd, ByteArray.size_append]
  by_cases h : i < t.size
  · rw [if_pos (by omega : s.size + i < s.size + t.size), if_pos h]
  · rw [if_neg (by omega : ¬ s.size + i < s.size + t.size), if_neg h]
theorem scan_right (s t : ByteArray) (i : Nat) : scan (s ++ t) (s.size + i) = ((scan t i).1, (scan t i).2.map (s.size + ·)) := by
  refine scan_ind t (fun i => scan (s ++ t) (s.size + i) = ((scan t i).1, (scan t i).2.map (s.size + ·))) ?_ ?_ ?_ i
  · intro i h
    rw [scan_end h, scan_end (by rw [ByteArray.size_append]; omega)]; rfl
  · intro i h h0
    rw [scan_bad h h0, scan_bad (by rw [ByteArray.size_append]; omega) (by rw [rd_right]; exact h0)]; rfl
  · intro i h h0 ih
    rw [scan_step h h0, scan_step (by rw [ByteArray.size_append]; omega) (by rw [rd_right]; exact h0), rd_right, Nat.add_assoc, ih]
theorem scan_left (s t : ByteArray) (i : Nat) : i ≤ s.size → (scan s i).2 = none → scan (s ++ t) i = ((scan s i).1 ++ (scan t 0).1, (scan t 0).2.map (s.size + ·)) := by
  refine scan_ind s (fun i => i ≤ s.size → (scan s i).2 = none → scan (s ++ t) i = ((scan s i).1 ++ (scan t 0).1, (scan t 0).2.map (s.size + ·))) ?_ ?_ ?_ i
  · intro i h hi _
    obtain rfl : i = s.size := by omega
    rw [scan_end h]
    have := scan_right s t 0
    rw [Nat.add_zero] at this
    rw [this]; rfl
  · intro i h h0 hi hn
    rw [scan_bad h h0] at hn; cases hn
  · intro i h h0 ih hi hn
    have hw := rd_width s i
    rw [scan_step h h0] at hn ⊢
    rw [scan_step (by rw [ByteArray.size_append]; omega) (by rw [rd_left s t i h h0]; exact h0), rd_left s t i h h0, ih (by omega) hn]
    rfl
theorem chars_append {s t : ByteArray} (h : bad s < 0) : chars (s ++ t) = chars s ++ chars t := by
  have := scan_left s t 0 (Nat.zero_le _) ((bad_neg s).1 h)
  unfold chars; rw [this]
theorem bad_append {s t : ByteArray} (h : bad s < 0) (h2 : bad t < 0) : bad (s ++ t) < 0 := by
  have := scan_left s t 0 (Nat.zero_le _) ((bad_neg s).1 h)
  rw [bad_neg, this, (bad_neg t).1 h2]; rfl

/-- THERE AND BACK. -/
theorem scan_form (r : Int) (t : ByteArray) (hm : may r = true) : scan (form r ++ t) 0 = (r.toNat :: (scan t 0).1, (scan t 0).2.map ((form r).size + ·)) := by
  have h1 := form_pos hm
  have hr : rd (form r ++ t) 0 = (r.toNat, (form r).size) :=
    form_read _ 0 r hm (by rw [ByteArray.size_append]; omega) (fun k hk => by rw [Nat.zero_add, get!_left _ _ k hk])
  rw [scan_step (by rw [ByteArray.size_append]; omega) (by rw [hr]; exact Nat.ne_of_gt h1), hr]
  have := scan_right (form r) t 0
  rw [Nat.add_zero] at this
  simp only [Nat.zero_add]
  rw [this]
theorem strOfNums_append (a b : List Int) : strOfNums (a ++ b) = strOfNums a ++ strOfNums b := by
  unfold strOfNums
  rw [List.map_append, ByteArray.mk_append_mk]
theorem scan_forms (l : List Int) (h : l.all may = true) : scan (strOfNums (l.flatMap formZ)) 0 = (l.map Int.toNat, none) := by
  induction l with
  | nil => exact scan_end (by simp [strOfNums_size])
  | cons r l ih =>
    simp only [List.all_cons, Bool.and_eq_true] at h
    have e : strOfNums ((r :: l).flatMap formZ) = form r ++ strOfNums (l.flatMap formZ) := by
      rw [List.flatMap_cons, strOfNums_append]; unfold form; rfl
    rw [e, scan_form r _ h.1, ih h.2]; rfl
theorem extract_all (s : ByteArray) (i j k : Nat) (h1 : i ≤ j) (h2 : j ≤ k) : s.extract i j ++ s.extract j k = s.extract i k := by
  rw [ByteArray.extract_append_extract]
  congr 1 <;> omega
theorem forms_scan (s : ByteArray) (i : Nat) : i ≤ s.size → (scan s i).2 = none → strOfNums (((scan s i).1.map fun (c : Nat) => (c : Int)).flatMap formZ) = s.extract i s.size := by
  refine scan_ind s (fun i => i ≤ s.size → (scan s i).2 = none → strOfNums (((scan s i).1.map fun (c : Nat) => (c : Int)).flatMap formZ) = s.extract i s.size) ?_ ?_ ?_ i
  · intro i h hi _
    obtain rfl : i = s.size := by omega
    rw [scan_end h, ByteArray.extract_same]; rfl
  · intro i h h0 hi hn
    rw [scan_bad h h0] at hn; cases hn
  · intro i h h0 ih hi hn
    have hw := rd_width s i
    rcases rd_cases s i h with ⟨h1, _⟩ | ⟨h1, h2, h3, h4, h5, h6⟩
    · exact absurd (by rw [h1]) h0
    · rw [scan_step h h0] at hn ⊢
      simp only [List.map_cons, List.flatMap_cons]
      rw [strOfNums_append, ih h3 hn]
      have e : strOfNums (formZ (rd s i).1) = s.extract i (i + (rd s i).2) := by rw [← h5]; unfold form; rfl
      rw [e, extract_all s i _ s.size (by omega) h3]
theorem scan_may (s : ByteArray) (i : Nat) : ∀ c ∈ (scan s i).1, may c = true := by
  refine scan_ind s (fun i => ∀ c ∈ (scan s i).1, may c = true) ?_ ?_ ?_ i
  · intro i h c hc; rw [scan_end h] at hc; cases hc
  · intro i h h0 c hc; rw [scan_bad h h0] at hc; cases hc
  · intro i h h0 ih c hc
    rw [scan_step h h0] at hc
    rcases List.mem_cons.1 hc with rfl | hc
    · rcases rd_cases s i h with ⟨h1, _⟩ | ⟨_, _, _, h4, _, _⟩
      · exact absurd (by rw [h1]) h0
      · exact h4
    · exact ih c hc
end Go.Proofs.YtbhicblkgjgenaaGreatDoor
namespace Go.Proofs.YtbhicblkgjgenaaGreatDoor

def letterRanges : List (Nat × Nat) := [(0x41, 0x5A), (0x5F, 0x5F), (0x61, 0x7A), (0xAA, 0xAA), (0xB5, 0xB5), (0xBA, 0xBA), (0xC0, 0xD6), (0xD8, 0xF6), (0xF8, 0x2C1), (0x370, 0x373), (0x376, 0x377), (0x37B, 0x37D), (0x386, 0x386), (0x388, 0x38A), (0x38C, 0x38C), (0x38E, 0x3A1), (0x3A3, 0x3F5), (0x400, 0x481), (0x48A, 0x52F), (0x531, 0x556), (0x561, 0x587), (0x5D0, 0x5EA), (0x620, 0x64A), (0x904, 0x939), (0xE01, 0xE30), (0x10A0, 0x10C5), (0x1E00, 0x1F15), (0x3041, 0x3096), (0x30A1, 0x30FA), (0x4E00, 0x9FFF), (0xAC00, 0xD7A3), (0x10400, 0x1044F), (0x20000, 0x2A6DF)]
def digitRanges : List (Nat × Nat) := [(0x30, 0x39), (0x660, 0x669), (0x966, 0x96F), (0xE50, 0xE59), (0xFF10, 0xFF19)]
def inR (l : List (Nat × Nat)) (r : Int) : Bool := l.any fun p => decide ((p.1 : Int) ≤ r) && decide (r ≤ (p.2 : Int))
@[irreducible] def letter (r : Int) : Bool := inR letterRanges r
@[irreducible] def digit (r : Int) : Bool := inR digitRanges r
def frm (l : List (Nat × Nat)) (i : Nat) : Nat := (l.getD i (0, 0)).1
def too (l : List (Nat × Nat)) (i : Nat) : Nat := (l.getD i (0, 0)).2
theorem inR_at (l : List (Nat × Nat)) (r : Int) (i : Nat) (hi : i < l.length) (h1 : (frm l i : Int) ≤ r) (h2 : r ≤ (too l i : Int)) : inR l r = true := by
  unfold inR
  rw [List.any_eq_true]
  refine ⟨l[i], List.getElem_mem hi, ?_⟩
  unfold frm at h1; unfold too at h2
  rw [List.getD_eq_getElem?_getD, List.getElem?_eq_getElem hi] at h1 h2
  simp at h1 h2 ⊢
  exact ⟨h1, h2⟩
theorem inR_none (l : List (Nat × Nat)) (r : Int) (h : ∀ i, i < l.length → r < (frm l i : Int) ∨ (too l i : Int) < r) : inR l r = false := by
  unfold inR
  rw [List.any_eq_false]
  intro p hp
  obtain ⟨i, hi, rfl⟩ := List.getElem_of_mem hp
  have := h i hi
  unfold frm too at this
  rw [List.getD_eq_getElem?_getD, List.getElem?_eq_getElem hi] at this
  simp at this ⊢
  omega
theorem letters_sorted : ∀ i, i < 33 → ∀ j, j < 33 → i ≤ j → frm letterRanges i ≤ frm letterRanges j ∧ too letterRanges i ≤ too letterRanges j := by decide +kernel
theorem letters_small : ∀ i, i < 33 → frm letterRanges i ≤ too letterRanges i ∧ too letterRanges i < 1114112 := by decide +kernel
/-- The words of the language. -/
def words : List (List UInt8) := [[98, 114, 101, 97, 107], [99, 97, 115, 101], [99, 104, 97, 110], [99, 111, 110, 115, 116], [99, 111, 110, 116, 105, 110, 117, 101], [100, 101, 102, 97, 117, 108, 116], [100, 101, 102, 101, 114], [101, 108, 115, 101], [102, 97, 108, 108, 116, 104, 114, 111, 117, 103, 104], [102, 111, 114], [102, 117, 110, 99], [103, 111], [103, 111, 116, 111], [105, 102], [105, 109, 112, 111, 114, 116], [105, 110, 116, 101, 114, 102, 97, 99, 101], [109, 97, 112], [112, 97, 99, 107, 97, 103, 101], [114, 97, 110, 103, 101], [114, 101, 116, 117, 114, 110], [115, 101, 108, 101, 99, 116], [115, 116, 114, 117, 99, 116], [115, 119, 105, 116, 99, 104], [116, 121, 112, 101], [118, 97, 114]]
def word (s : ByteArray) : Bool := words.any fun w => s.toList == w
def blank (r : Int) : Bool := r == 32 || r == 9 || r == 10 || r == 13
/-- What a digit of base 16 says; -1. -/
def base (r : Int) : Int := if 48 ≤ r ∧ r ≤ 57 then r - 48 else if 97 ≤ r ∧ r ≤ 102 then r - 97 + 10 else if 65 ≤ r ∧ r ≤ 70 then r - 65 + 10 else -1
/-- Do characters make a name? (The first must be a letter.) -/
def chk : Bool → List Int → Bool
  | _, [] => true
  | first, x :: l => (letter x || (!first && digit x)) && chk false l
@[irreducible] def name (s : ByteArray) : Bool := !s.toList.isEmpty && !word s && decide (bad s < 0) && chk true ((chars s).map fun (n : Nat) => (n : Int))
end Go.Proofs.YtbhicblkgjgenaaGreatDoor
