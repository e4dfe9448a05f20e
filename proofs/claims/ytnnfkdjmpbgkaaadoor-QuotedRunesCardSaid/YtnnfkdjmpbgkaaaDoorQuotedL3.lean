/- Layer 6 in plain Lean: a character by its escape and by itself. -/
import Derived.Test.YtnnfkdjmpbgkaaaDoorQuotedL1
import Derived.Test.YtnnfkdjmpbgkaaaDoorRef06f
import Derived.Test.YtnnfkdjmpbgkaaaDoorQuotedP2
namespace Go.Proofs.YtnnfkdjmpbgkaaaDoor
set_option linter.all false

def digs : List Int := [48, 49, 50, 51, 52, 53, 54, 55, 56, 57, 97, 66, 99, 68, 101, 70]
/-- The last k digits of a number. -/
def hexS : Nat → Nat → List Int
  | 0, _ => []
  | k + 1, n => digs.getD (n / 16 ^ k % 16) 0 :: hexS k n
theorem hexS_len : ∀ k n, (hexS k n).length = k
  | 0, _ => rfl
  | k + 1, n => by rw [hexS, List.length_cons, hexS_len k n]
theorem digs_base : ∀ k, k < 16 → base (digs.getD k 0) = k ∧ 0 ≤ digs.getD k 0 ∧ digs.getD k 0 < 256 := by decide +kernel
theorem hexS_byte : ∀ k n, ∀ x ∈ hexS k n, 0 ≤ x ∧ x < 256
  | 0, _, x, hx => by cases hx
  | k + 1, n, x, hx => by
    rw [hexS] at hx
    rcases List.mem_cons.1 hx with rfl | hx
    · exact (digs_base _ (Nat.mod_lt _ (by omega))).2
    · exact hexS_byte k n x hx
theorem hexS_num (t : ByteArray) (n : Nat) : ∀ (k i : Nat) (m : Int), Stands t i (hexS k n) → num t 16 i k m = some (m * 16 ^ k + ((n % 16 ^ k : Nat) : Int))
  | 0, i, m, h => by
    rw [num, Int.pow_zero, Int.mul_one, Nat.pow_zero, Nat.mod_one]; simp
  | k + 1, i, m, h => by
    rw [hexS] at h
    have h0 := h.get 0 _ rfl
    rw [Nat.add_zero] at h0
    have hb := digs_base (n / 16 ^ k % 16) (Nat.mod_lt _ (by omega))
    have hsz := h.1
    simp only [List.length_cons] at hsz
    have h' : Stands t i ([digs.getD (n / 16 ^ k % 16) 0] ++ hexS k n) := h
    have hr := hexS_num t n k (i + 1) (m * 16 + ((n / 16 ^ k % 16 : Nat) : Int)) h'.right
    have hlt : n / 16 ^ k % 16 < 16 := Nat.mod_lt _ (by omega)
    rw [num, h0, hb.1, if_pos ⟨by omega, by omega, by omega⟩, hr]
    congr 1
    have e1 : n % 16 ^ (k + 1) = n % 16 ^ k + 16 ^ k * (n / 16 ^ k % 16) := by rw [Nat.pow_succ, Nat.mod_mul]
    have e2 : (16 : Int) ^ (k + 1) = 16 * 16 ^ k := by rw [Int.pow_succ, Int.mul_comm]
    rw [e1, e2, Int.natCast_add, Int.natCast_mul, Int.natCast_pow, Int.add_mul, Int.mul_assoc, Int.add_assoc]
    congr 1
    rw [Int.mul_comm ((n / 16 ^ k % 16 : Nat) : Int), Int.add_comm]
    rfl
theorem esc_big (t : ByteArray) (i mark n : Nat) (hm : mark = 34 ∨ mark = 39) (hn : n < 4294967296) (h : Stands t i ([92, 85] ++ hexS 8 n)) : item t i mark = if may n = true then some (10, formZ n) else none := by
  have h0 := h.get 0 92 rfl
  have h1 := h.get 1 85 rfl
  rw [Nat.add_zero] at h0
  have hsz := h.1
  rw [List.length_append, hexS_len] at hsz
  simp only [List.length_cons, List.length_nil] at hsz
  have e0 : bt t i = 92 := by omega
  have e1 : bt t (i + 1) = 85 := by omega
  have hnum := hexS_num t n 8 (i + 2) 0 h.right
  have hmod : n % 16 ^ 8 = n := Nat.mod_eq_of_lt (by omega)
  rw [hmod, Int.zero_mul, Int.zero_add] at hnum
  unfold item esc
  rw [if_pos e0, if_neg (by omega), e1, if_neg (by decide), if_neg (by omega), if_neg (by decide), if_pos (Or.inr rfl), if_pos rfl, hnum, Option.bind_some]
def marked (m : Int) (l : List Int) : ByteArray := strOfNums ([m] ++ l ++ [m])
theorem marked_stands (m : Int) (l : List Int) (hm : 0 ≤ m ∧ m < 256) (hl : ∀ x ∈ l, 0 ≤ x ∧ x < 256) : Stands (marked m l) 0 ([m] ++ l ++ [m]) ∧ (marked m l).size = l.length + 2 := by
  have h := stands_str ([m] ++ l ++ [m]) (by
    intro x hx
    simp only [List.mem_append, List.mem_singleton] at hx
    rcases hx with (hx | hx) | hx
    · omega
    · exact hl x hx
    · omega) ByteArray.empty
  have e : strOfNums ([m] ++ l ++ [m]) ++ ByteArray.empty = strOfNums ([m] ++ l ++ [m]) := ByteArray.append_empty
  rw [e] at h
  refine ⟨h, ?_⟩
  unfold marked
  rw [strOfNums_size]
  simp
theorem value_of_begun (t : ByteArray) (k : Int) (n : Nat) (v : ByteArray) (h : begun t 0 = (k, (n : Int), v, 0)) (hn : n = t.size) : value t = (v, 0) := by
  unfold value
  rw [h, if_pos ⟨rfl, by simp only []; omega⟩]
theorem value_of_none (t : ByteArray) (h : begun t 0 = (0, 0, ByteArray.empty, 4)) : value t = (ByteArray.empty, 4) := by
  unfold value
  rw [h, if_neg (fun hh => by have := hh.1; simp at this)]
theorem big_value (m n : Nat) (hm : m = 34 ∨ m = 39) (hn : n < 4294967296) : value (marked m ([92, 85] ++ hexS 8 n)) = if may n = true then (strOfNums (formZ n), 0) else (ByteArray.empty, 4) := by
  have hl : ∀ x ∈ ([92, 85] : List Int) ++ hexS 8 n, 0 ≤ x ∧ x < 256 := by
    intro x hx
    rcases List.mem_append.1 hx with hx | hx
    · simp at hx; omega
    · exact hexS_byte 8 n x hx
  obtain ⟨hst, hsz⟩ := marked_stands m _ (by omega) hl
  rw [List.append_assoc] at hst
  have h0 := hst.get 0 m rfl
  rw [Nat.add_zero] at h0
  have e0 : bt (marked m ([92, 85] ++ hexS 8 n)) 0 = m := by omega
  have hst1 := hst.right
  have hit := esc_big _ 1 m n hm hn hst1.left
  have hst2 := hst1.right
  have hln : (([92, 85] : List Int) ++ hexS 8 n).length = 10 := by rw [List.length_append, hexS_len]; rfl
  rw [hln] at hsz
  have e11 : (bt (marked m ([92, 85] ++ hexS 8 n)) 11 : Int) = m := by
    have := hst2.get 0 m rfl
    rwa [hln] at this
  have e11' : bt (marked m ([92, 85] ++ hexS 8 n)) 11 = m := by omega
  have e1 : bt (marked m ([92, 85] ++ hexS 8 n)) 1 = 92 := by
    have := hst1.get 0 92 rfl
    have : (bt (marked m ([92, 85] ++ hexS 8 n)) 1 : Int) = 92 := this
    omega
  generalize marked m ([92, 85] ++ hexS 8 n) = t at *
  rcases hm with rfl | rfl
  · have hb := begun_body (s := t) (i := 0) (by omega) e0
    have hbi := body_item (s := t) (i := 1) (by omega) (by omega)
    rw [hit] at hbi
    rw [Nat.zero_add, hbi] at hb
    by_cases hmay : may n = true
    · rw [if_pos hmay] at hb ⊢
      rw [Option.bind_some, body_mark (s := t) (i := 1 + 10) (by omega) e11'] at hb
      have e : begun t 0 = (7, ((12 : Nat) : Int), strOfNums (formZ n), 0) := by
        refine hb.trans ?_
        simp
      exact value_of_begun t _ _ _ e (by omega)
    · rw [if_neg hmay] at hb ⊢
      exact value_of_none t hb
  · have hb := begun_single (s := t) (i := 0) (by omega) e0
    by_cases hmay : may n = true
    · rw [if_pos hmay] at hit ⊢
      rw [Nat.zero_add, single_some (s := t) (i := 1) (by omega) (by omega) hit, if_pos ⟨by omega, e11'⟩] at hb
      exact value_of_begun t _ _ _ hb (by omega)
    · rw [if_neg hmay] at hit ⊢
      rw [Nat.zero_add, single_none (s := t) (i := 1) (by omega) (by omega) hit] at hb
      exact value_of_none t hb
theorem formZ_first (r : Int) (hmay : may r = true) (y : Int) (hy : (formZ r)[0]? = some y) : y = r ∨ 128 ≤ y := by
  have hr := (may_iff r).1 hmay
  unfold formZ at hy
  rw [hmay] at hy
  simp at hy
  split at hy
  · simp at hy; left; omega
  · split at hy
    · simp at hy; right; omega
    · split at hy
      · simp at hy; right; omega
      · simp at hy; right; omega
/-- A character by itself. -/
theorem self_value (r : Int) (hmay : may r = true) : value (marked 39 (formZ r)) = if r = 39 ∨ r = 92 ∨ r = 10 then (ByteArray.empty, 4) else (strOfNums (formZ r), 0) := by
  obtain ⟨hst, hsz⟩ := marked_stands 39 (formZ r) (by omega) (formZ_byte r)
  rw [List.append_assoc] at hst
  have h0 := hst.get 0 39 rfl
  rw [Nat.add_zero] at h0
  have e0 : bt (marked 39 (formZ r)) 0 = 39 := by omega
  have hst1 := hst.right
  have hpos := form_pos hmay
  rw [form_size] at hpos
  have hsz1 : (form r).size = (formZ r).length := form_size r
  have hlast : bt (marked 39 (formZ r)) (1 + (formZ r).length) = 39 := by
    have := hst1.right.get 0 39 rfl
    have h2 : (bt (marked 39 (formZ r)) (1 + (formZ r).length) : Int) = 39 := this
    omega
  have hget : ∀ k, k < (form r).size → (marked 39 (formZ r)).get! (1 + k) = (form r).get! k := by
    intro k hk
    rw [hsz1] at hk
    have h1 := hst1.left.get k _ (List.getElem?_eq_getElem hk)
    have h2 := bt_form r k _ (List.getElem?_eq_getElem hk) (formZ_byte r _ (List.getElem_mem hk)).1 (formZ_byte r _ (List.getElem_mem hk)).2
    have h3 : (bt (marked 39 (formZ r)) (1 + k) : Int) = (bt (form r) k : Int) := h1.trans h2.symm
    have h4 : bt (marked 39 (formZ r)) (1 + k) = bt (form r) k := by omega
    exact UInt8.toNat_inj.1 h4
  have hrd := form_read (marked 39 (formZ r)) 1 r hmay (by rw [hsz1]; omega) hget
  obtain ⟨y, hy⟩ : ∃ y, (formZ r)[0]? = some y := ⟨_, List.getElem?_eq_getElem hpos⟩
  have hy1 : (bt (marked 39 (formZ r)) 1 : Int) = y := by
    have := hst1.left.get 0 y hy
    exact this
  have hfirst := formZ_first r hmay y hy
  by_cases hsp : r = 39 ∨ r = 92 ∨ r = 10
  · rw [if_pos hsp]
    rcases hsp with rfl | rfl | rfl
    · decide +kernel
    · decide +kernel
    · decide +kernel
  · rw [if_neg hsp]
    have hext : (marked 39 (formZ r)).extract 1 (1 + (formZ r).length) = strOfNums (formZ r) := by
      apply ByteArray.ext
      apply Array.ext'
      rw [extract_data, strOfNums_data]
      unfold marked
      rw [strOfNums_data, Nat.add_sub_cancel_left]
      simp
    have hn1 : bt (marked 39 (formZ r)) 1 ≠ 39 := by omega
    have hn2 : bt (marked 39 (formZ r)) 1 ≠ 92 := by omega
    have hn3 : bt (marked 39 (formZ r)) 1 ≠ 10 := by omega
    have hit : item (marked 39 (formZ r)) 1 39 = some ((formZ r).length, formZ r) := by
      unfold item
      rw [if_neg hn2, if_neg hn3, if_neg (by decide), hrd, hsz1, if_neg (by omega), hext, nums_strOfNums _ (formZ_byte r)]
    generalize marked 39 (formZ r) = t at *
    have hb := begun_single (s := t) (i := 0) (by omega) e0
    rw [Nat.zero_add, single_some (s := t) (i := 1) (by omega) hn1 hit, if_pos ⟨by omega, hlast⟩] at hb
    exact value_of_begun t _ _ _ hb (by omega)
end Go.Proofs.YtnnfkdjmpbgkaaaDoor
