/- Layer 7 in plain Lean: a lexeme goes on, and all lexemes of a text. -/
import Derived.Test.YtelfobnmiphdnaaGreatDoorScanP
import Derived.Test.YtelfobnmiphdnaaGreatDoorQuotedP3
namespace Go.Proofs.YtelfobnmiphdnaaGreatDoor
set_option linter.all false

theorem rd_ascii {s : ByteArray} {i : Nat} (hi : i < s.size) (h : bt s i < 128) : rd s i = (bt s i, 1) := by
  have := rd_try s i 1 (by omega) (by omega) (by omega) ((try_1 s i (by omega)).2 h)
  rw [this, refV_1]
theorem rd_small {s : ByteArray} {i : Nat} (h0 : (rd s i).1 ≠ 0) (h : (rd s i).1 < 128) : bt s i = (rd s i).1 := by
  have hi : i < s.size := by
    rcases Nat.lt_or_ge i s.size with h | h'
    · exact h
    · rw [rd_out h'] at h0; exact absurd rfl h0
  by_cases hb : bt s i < 128
  · rw [rd_ascii hi hb]
  · exfalso
    rcases rd_cases s i hi with ⟨hc, _⟩ | ⟨h1, h4, hn, hmay, hform, _⟩
    · rw [hc] at h0; exact h0 rfl
    · have h2 := bt_form ((rd s i).1 : Int) 0 ((rd s i).1 : Int) (by unfold formZ; rw [if_neg (by simp [hmay]), if_pos (by omega)]; rfl) (by omega) (by omega)
      rw [hform] at h2
      unfold bt at h2 hb
      rw [get!_extract s i _ 0 (by omega) hn, Nat.add_zero] at h2
      omega
theorem rd_pos {s : ByteArray} {i : Nat} (h0 : (rd s i).1 ≠ 0) : (rd s i).2 ≠ 0 ∧ i + (rd s i).2 ≤ s.size := by
  have hi : i < s.size := by
    rcases Nat.lt_or_ge i s.size with h | h'
    · exact h
    · rw [rd_out h'] at h0; exact absurd rfl h0
  rcases rd_cases s i hi with ⟨hc, _⟩ | ⟨h1, h4, hn, _⟩
  · rw [hc] at h0; exact absurd rfl h0
  · exact ⟨by omega, hn⟩
theorem letter_zero : letter 0 = false := by unfold letter; decide +kernel
theorem blank_byte {s : ByteArray} {i : Nat} (h : blank (rd s i).1 = true) : i < s.size ∧ blankB (bt s i) = true := by
  have h4 : (rd s i).1 = 32 ∨ (rd s i).1 = 9 ∨ (rd s i).1 = 10 ∨ (rd s i).1 = 13 := by
    unfold blank at h
    simp at h
    omega
  have hi := (rd_pos (s := s) (i := i) (by omega))
  have hb := rd_small (s := s) (i := i) (by omega) (by omega)
  refine ⟨by omega, ?_⟩
  rw [hb]
  rcases h4 with h | h | h | h <;> rw [h] <;> rfl
/-- A lexeme is some bytes. -/
theorem lex_gt (s : ByteArray) (i : Nat) (hi : i < s.size) (h : (lex s i).1 ≠ 0) : ∃ e : Nat, (lex s i).2 = e ∧ i < e ∧ e ≤ s.size := by
  unfold lex at h ⊢
  split
  · rename_i h1
    have := rd_pos (s := s) (i := i) (by omega)
    exact ⟨_, rfl, by omega, this.2⟩
  · rename_i h1
    rw [if_neg h1] at h
    split
    · rename_i h2
      obtain ⟨g1, g2⟩ := blank_byte h2
      refine ⟨_, rfl, ?_, (blankTo_le s i (by omega)).2⟩
      rw [blankTo, if_pos ⟨g1, g2⟩]
      have := blankTo_le s (i + 1) (by omega)
      omega
    · rename_i h2
      rw [if_neg h2] at h
      split
      · rename_i h3
        refine ⟨_, rfl, ?_, (lineTo_le s i (by omega)).2⟩
        rw [lineTo, if_pos ⟨by omega, by omega⟩]
        have := lineTo_le s (i + 1) (by omega)
        omega
      · rename_i h3
        rw [if_neg h3] at h
        split
        · rename_i h4
          rw [if_pos h4] at h
          cases hb : blockTo s (i + 2) with
          | none => rw [hb] at h; exact absurd rfl h
          | some e =>
            have := blockTo_le s (i + 2) e hb
            exact ⟨e, rfl, by omega, this.2⟩
        · rename_i h4
          rw [if_neg h4] at h
          split
          · rename_i h5
            have h0 : (rd s i).1 ≠ 0 := fun h0 => by rw [h0] at h5; have := letter_zero; simp_all
            have hp := rd_pos h0
            have hw : inWord s i = true := by unfold inWord; simp [hp.1, h5]
            have hg : i < wordTo s i ∧ wordTo s i ≤ s.size := by
              refine ⟨?_, (wordTo_le s i (by omega)).2⟩
              rw [wordTo, dif_pos ⟨hi, hw⟩]
              have := wordTo_le s (i + (rd s i).2) hp.2
              omega
            split
            · exact ⟨_, rfl, hg⟩
            · exact ⟨_, rfl, hg⟩
          · rename_i h5
            rw [if_neg h5] at h
            split
            · exact ⟨_, rfl, by omega, by omega⟩
            · rename_i h6
              rw [if_neg h6] at h
              split
              · rename_i h7
                rw [if_pos h7] at h
                unfold numScan at h ⊢
                split
                · rename_i h8
                  rw [if_pos h8] at h
                  rw [Int.toNat_natCast] at h8 h ⊢
                  have := numEnd_gt h8.2
                  split
                  · exact ⟨_, rfl, this⟩
                  · rename_i h9
                    rw [if_neg h9] at h
                    exact absurd rfl h
                · rename_i h8
                  rw [if_neg h8] at h
                  exact absurd rfl h
              · rename_i h7
                rw [if_neg h7] at h
                split
                · rename_i h8
                  rw [if_pos h8] at h
                  have he := begun_lim s i h
                  obtain ⟨j, n, g1, g2, g3, g4, _⟩ := begun_found s i (begun s i).1 (begun s i).2.1 (begun s i).2.2.1 (by rw [← he])
                  exact ⟨n, g2, by omega, g4⟩
                · rename_i h8
                  rw [if_neg h8] at h
                  split
                  · rename_i h9
                    refine ⟨_, rfl, by omega, ?_⟩
                    have hl : signL (byts (s.extract i s.size)) ≤ (byts (s.extract i s.size)).length := by
                      unfold signL
                      obtain ⟨l3, l2, l1⟩ := (show (∀ l ∈ signs3, l.length = 3) ∧ (∀ l ∈ signs2, l.length = 2) ∧ (∀ l ∈ signs1, l.length = 1) by decide +kernel)
                      split
                      · rename_i g; have := l3 _ (List.contains_iff_mem.1 g); rw [List.length_take] at this; omega
                      · split
                        · rename_i g; have := l2 _ (List.contains_iff_mem.1 g); rw [List.length_take] at this; omega
                        · split
                          · rename_i g; have := l1 _ (List.contains_iff_mem.1 g); rw [List.length_take] at this; omega
                          · omega
                    rw [byts_length, ByteArray.size_extract] at hl
                    omega
                  · rename_i h9
                    rw [if_neg h9] at h
                    exact absurd rfl h
/-- All lexemes from a place on: kind, beginning, end; and the first place at which none begins. -/
def alls (s : ByteArray) (i : Nat) : List (Int × Nat × Nat) × Option Nat :=
  if h : i < s.size then
    if hk : (lex s i).1 ≠ 0 then (((lex s i).1, i, (lex s i).2.toNat) :: (alls s (lex s i).2.toNat).1, (alls s (lex s i).2.toNat).2)
    else ([], some i)
  else ([], none)
termination_by s.size - i
decreasing_by
  obtain ⟨e, h1, h2, h3⟩ := lex_gt s i h hk
  rw [h1]; simp only [Int.toNat_natCast]; omega
theorem alls_end {s : ByteArray} {i : Nat} (h : ¬ i < s.size) : alls s i = ([], none) := by rw [alls, dif_neg h]
theorem alls_bad {s : ByteArray} {i : Nat} (h : i < s.size) (hk : (lex s i).1 = 0) : alls s i = ([], some i) := by rw [alls, dif_pos h, dif_neg (by simpa using hk)]
theorem alls_step {s : ByteArray} {i e : Nat} {k : Int} (h : i < s.size) (hl : lex s i = (k, (e : Int))) (hk : k ≠ 0) : alls s i = ((k, i, e) :: (alls s e).1, (alls s e).2) := by
  rw [alls, dif_pos h, dif_pos (by rw [hl]; exact hk), hl]
  simp only [Int.toNat_natCast]
theorem alls_len (s : ByteArray) (i : Nat) : (alls s i).1.length ≤ s.size - i := by
  by_cases h : i < s.size
  · by_cases hk : (lex s i).1 = 0
    · rw [alls_bad h hk]; simp
    · obtain ⟨e, h1, h2, h3⟩ := lex_gt s i h hk
      have := alls_len s e
      rw [alls_step h (show lex s i = ((lex s i).1, (e : Int)) by rw [← h1]) hk]
      simp only [List.length_cons]; omega
  · rw [alls_end h]; simp
termination_by s.size - i
decreasing_by omega
/-- A text's lexemes, and its fault: number and place. -/
@[irreducible] def scanAll (s : ByteArray) : List (Int × Nat × Nat) × Int × Int :=
  if 65536 < s.size then ([], 2, 0)
  else if 0 ≤ clean s then ([], 3, clean s)
  else match (alls s 0).2 with
    | some i => ([], 4, (i : Int))
    | none => ((alls s 0).1, 0, 0)
/-- The cells of a token. -/
def tokV (t : Int × Nat × Nat) : List Value := [.int .u8 t.1, .int .i64 (t.2.1 : Nat), .int .i64 (t.2.2 : Nat)]
def toksV (l : List (Int × Nat × Nat)) : List Value := l.flatMap tokV
theorem toksV_snoc (l : List (Int × Nat × Nat)) (t : Int × Nat × Nat) : toksV (l ++ [t]) = toksV l ++ tokV t := by unfold toksV; rw [List.flatMap_append]; simp
theorem toksV_length (l : List (Int × Nat × Nat)) : (toksV l).length = l.length * 3 := by
  unfold toksV
  induction l with
  | nil => rfl
  | cons t l ih => rw [List.flatMap_cons, List.length_append, ih]; simp [tokV]; omega
end Go.Proofs.YtelfobnmiphdnaaGreatDoor
