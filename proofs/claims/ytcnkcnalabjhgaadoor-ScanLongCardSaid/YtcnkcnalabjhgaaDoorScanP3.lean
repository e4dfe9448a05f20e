/- Layer 7 in plain Lean: boundaries of characters, the first bad character, all lexemes. -/
import Derived.Test.YtcnkcnalabjhgaaDoorScanP2
import Derived.Test.YtcnkcnalabjhgaaDoorBack
namespace Go.Proofs.YtcnkcnalabjhgaaDoor
set_option linter.all false

/-- A character's first byte is no byte that goes on; its other bytes are. -/
theorem rd_lead (s : ByteArray) (i : Nat) (h0 : (rd s i).2 ≠ 0) : bt s i / 64 ≠ 2 ∧ ∀ k, 1 ≤ k → k < (rd s i).2 → bt s (i + k) / 64 = 2 := by
  have hi : i < s.size := by
    rcases Nat.lt_or_ge i s.size with h | h
    · exact h
    · rw [rd_out h] at h0; exact absurd rfl h0
  rcases rd_cases s i hi with ⟨hc, _⟩ | ⟨h1, h4, hn, hmay, hform, _⟩
  · exact absurd (by rw [hc]) h0
  · generalize hq : rd s i = q at *
    obtain ⟨r, n⟩ := q
    simp only [] at *
    have hb : ∀ k, k < n → bt s (i + k) = bt (form r) k := fun k hk => by
      unfold bt
      rw [hform, get!_extract s i (i + n) k (by omega) hn]
    have hsz : (formZ r).length = n := by rw [← form_size, hform, ByteArray.size_extract]; omega
    have hm := (may_iff r).1 hmay
    have g : ∀ k x, (formZ r)[k]? = some x → 0 ≤ x → x < 256 → (bt (form r) k : Int) = x := fun k x a b c => bt_form r k x a b c
    have b0 := hb 0 (by omega)
    rw [Nat.add_zero] at b0
    unfold formZ at hsz g
    rw [if_neg (by simp [hmay])] at hsz
    simp only [if_neg (show ¬ may r = false by simp [hmay])] at g
    by_cases c1 : (r : Int) < 128
    · rw [if_pos c1] at hsz; simp only [if_pos c1] at g
      simp at hsz
      have e0 := g 0 _ rfl (by omega) (by omega)
      exact ⟨by omega, fun k a b => by omega⟩
    · rw [if_neg c1] at hsz; simp only [if_neg c1] at g
      by_cases c2 : (r : Int) < 2048
      · rw [if_pos c2] at hsz; simp only [if_pos c2] at g
        simp at hsz
        have e0 := g 0 _ rfl (by omega) (by omega)
        have e1 := g 1 _ rfl (by omega) (by omega)
        have b1 := hb 1 (by omega)
        refine ⟨by omega, fun k a b => ?_⟩
        obtain rfl : k = 1 := by omega
        omega
      · rw [if_neg c2] at hsz; simp only [if_neg c2] at g
        by_cases c3 : (r : Int) < 65536
        · rw [if_pos c3] at hsz; simp only [if_pos c3] at g
          simp at hsz
          have e0 := g 0 _ rfl (by omega) (by omega)
          have e1 := g 1 _ rfl (by omega) (by omega)
          have e2 := g 2 _ rfl (by omega) (by omega)
          have b1 := hb 1 (by omega)
          have b2 := hb 2 (by omega)
          refine ⟨by omega, fun k a b => ?_⟩
          obtain rfl | rfl : k = 1 ∨ k = 2 := by omega
          · omega
          · omega
        · rw [if_neg c3] at hsz; simp only [if_neg c3] at g
          simp at hsz
          have e0 := g 0 _ rfl (by omega) (by omega)
          have e1 := g 1 _ rfl (by omega) (by omega)
          have e2 := g 2 _ rfl (by omega) (by omega)
          have e3 := g 3 _ rfl (by omega) (by omega)
          have b1 := hb 1 (by omega)
          have b2 := hb 2 (by omega)
          have b3 := hb 3 (by omega)
          refine ⟨by omega, fun k a b => ?_⟩
          obtain rfl | rfl | rfl : k = 1 ∨ k = 2 ∨ k = 3 := by omega
          · omega
          · omega
          · omega
theorem clean_bad {s : ByteArray} {i : Nat} (h : i < s.size) (hb : badHere s i = true) : cleanZ s i = i := by rw [cleanZ, dif_pos h, dif_pos hb]
theorem clean_step {s : ByteArray} {i : Nat} (h : i < s.size) (hb : badHere s i = false) : cleanZ s i = cleanZ s (i + (rd s i).2) := by rw [cleanZ, dif_pos h, dif_neg (by simp [hb])]
theorem clean_end {s : ByteArray} {i : Nat} (h : ¬ i < s.size) : cleanZ s i = -1 := by rw [cleanZ, dif_neg h]
theorem good_width {s : ByteArray} {i : Nat} (hb : badHere s i = false) : (rd s i).2 ≠ 0 := by
  intro h; unfold badHere at hb; simp [h] at hb
/-- Reading the text up to its first bad place. -/
def upTo (s : ByteArray) : Nat := match (scan s 0).2 with | some i => i | none => s.size
theorem upTo_le (s : ByteArray) : upTo s ≤ s.size := by
  unfold upTo
  cases h : (scan s 0).2 with
  | none => exact Nat.le_refl _
  | some j => have := (scan_bad_at s 0 j h).2; simp only []; omega
theorem bad_upTo (s : ByteArray) : bad s = if upTo s < s.size then (upTo s : Int) else -1 := by
  unfold bad badZ upTo
  cases h : (scan s 0).2 with
  | none => simp
  | some j => have := (scan_bad_at s 0 j h).2; simp only []; rw [if_pos this]
theorem upTo_step {s : ByteArray} {i : Nat} (hs : (scan s i).2 = (scan s 0).2) (hi : i < upTo s) : (rd s i).2 ≠ 0 ∧ i + (rd s i).2 ≤ upTo s ∧ (scan s (i + (rd s i).2)).2 = (scan s 0).2 := by
  have hle := upTo_le s
  have h0 : (rd s i).2 ≠ 0 := fun h0 => by
    rw [scan_bad (by omega) h0] at hs
    unfold upTo at hi
    rw [← hs] at hi
    simp at hi
  have e := congrArg Prod.snd (scan_step (s := s) (i := i) (by omega) h0)
  simp only [] at e
  refine ⟨h0, ?_, by rw [← e, hs]⟩
  have hw := rd_width s i
  have e2 : (scan s (i + (rd s i).2)).2 = (scan s 0).2 := by rw [← e, hs]
  unfold upTo
  cases h : (scan s 0).2 with
  | none => simp only []; omega
  | some j =>
    rw [h] at e2
    exact (scan_bad_at s _ j e2).1
theorem upTo_end {s : ByteArray} (hs : (scan s (upTo s)).2 = (scan s 0).2) (hi : upTo s < s.size) : (rd s (upTo s)).2 = 0 := by
  cases Nat.eq_zero_or_pos (rd s (upTo s)).2 with
  | inl h => exact h
  | inr h =>
    exfalso
    have h0 : (rd s (upTo s)).2 ≠ 0 := by omega
    have e := congrArg Prod.snd (scan_step (s := s) (i := upTo s) hi h0)
    simp only [] at e
    cases h2 : (scan s 0).2 with
    | none => unfold upTo at hi; rw [h2] at hi; simp at hi
    | some j =>
      have hj : upTo s = j := by unfold upTo; rw [h2]
      have := scan_bad_at s (upTo s + (rd s (upTo s)).2) j (by rw [← e, hs, h2])
      omega
/-- What the program reads of the text cut at its first bad place. -/
theorem upTo_rd {s : ByteArray} {i : Nat} (h0 : (rd s i).2 ≠ 0) (h : i + (rd s i).2 ≤ upTo s) : rd (s.extract 0 (upTo s)) i = rd s i := by
  have hle := upTo_le s
  have e := cut_at s (upTo s) hle
  have hz : (s.extract 0 (upTo s)).size = upTo s := by rw [ByteArray.size_extract]; omega
  have := rd_back (s.extract 0 (upTo s)) (s.extract (upTo s) s.size) i
  rw [e, hz] at this
  exact this h0 h
/-- Does a character begin at a place, by going there? -/
def goes (s : ByteArray) (i at' : Nat) : Nat := if h : i < at' ∧ (rd s i).2 ≠ 0 then goes s (i + (rd s i).2) at' else i
termination_by at' - i
decreasing_by omega
theorem goes_lead (s : ByteArray) (at' : Nat) (hat : at' < s.size) (i : Nat) (hi : i ≤ at') (hc : cleanZ s i < 0) : (goes s i at' == at') = decide (bt s at' / 64 ≠ 2) := by
  have hb : badHere s i = false := by
    cases h : badHere s i
    · rfl
    · rw [clean_bad (by omega) h] at hc; omega
  have h0 := good_width hb
  obtain ⟨l1, l2⟩ := rd_lead s i h0
  rw [goes]
  by_cases hlt : i < at'
  · rw [dif_pos ⟨hlt, h0⟩]
    by_cases hle : i + (rd s i).2 ≤ at'
    · rw [clean_step (by omega) hb] at hc
      exact goes_lead s at' hat _ hle hc
    · have := l2 (at' - i) (by omega) (by omega)
      rw [show i + (at' - i) = at' by omega] at this
      rw [goes, dif_neg (by omega)]
      have e : (i + (rd s i).2 == at') = false := by rw [beq_eq_false_iff_ne]; omega
      rw [e, this]; rfl
  · obtain rfl : i = at' := by omega
    rw [dif_neg (by omega)]
    simp [l1]
termination_by at' - i
decreasing_by omega
/-! ### all lexemes -/
theorem begun_lim (s : ByteArray) (i : Nat) (h : (begun s i).1 ≠ 0) : (begun s i).2.2.2 = 0 := by
  by_cases he : (begun s i).2.2.2 = 0
  · exact he
  · exfalso
    unfold begun at h he
    split at h
    · exact h rfl
    · rename_i h1
      rw [if_neg h1] at he
      split at h
      · rename_i h2
        rw [if_pos h2] at he
        unfold begunAt at h he
        split at h
        · rename_i h3
          rw [if_pos h3] at he
          cases hr : raw s ((i : Int).toNat + 1) with
          | none => rw [hr] at h; exact h rfl
          | some p => rw [hr] at he; exact he rfl
        · rename_i h3
          rw [if_neg h3] at he
          split at h
          · rename_i h4
            rw [if_pos h4] at he
            cases hr : body s ((i : Int).toNat + 1) with
            | none => rw [hr] at h; exact h rfl
            | some p => rw [hr] at he; exact he rfl
          · rename_i h4
            rw [if_neg h4] at he
            cases hr : single s ((i : Int).toNat + 1) with
            | none => rw [hr] at h; exact h rfl
            | some p => rw [hr] at he; exact he rfl
      · exact h rfl
end Go.Proofs.YtcnkcnalabjhgaaDoor
