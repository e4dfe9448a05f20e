/- The same bytes in two texts, in plain Lean: the lexeme that begins there is the same one. -/
import Derived.Test.YtcnkcnalabjhgaaDoorSameP
namespace Go.Proofs.YtcnkcnalabjhgaaDoor
set_option linter.all false
attribute [local irreducible] signL byts

theorem lineTo_to {u : ByteArray} (e : Nat) (he : e ≤ u.size) (stop : e = u.size ∨ bt u e = 10) (a : Nat) (ha : a ≤ e) (h : ∀ j, a ≤ j → j < e → bt u j ≠ 10) : lineTo u a = e := by
  rw [lineTo]
  by_cases hlt : a < e
  · rw [if_pos ⟨by omega, h a (Nat.le_refl _) hlt⟩]
    exact lineTo_to e he stop (a + 1) hlt (fun j h1 h2 => h j (by omega) h2)
  · obtain rfl : a = e := by omega
    rw [if_neg (fun g => by rcases stop with q | q <;> omega)]
termination_by e - a
decreasing_by omega
set_option maxHeartbeats 2000000
theorem lex_same {s u : ByteArray} {i i' m n : Nat} (H : SameAt s i u i' m) (hi : i < s.size) (hn : n ≤ m) (hk : (lex s i).1 ≠ 0) (h10 : (lex s i).1 ≠ 10) (h11 : (lex s i).1 = 11 → n = m ∧ (i' + m = u.size ∨ bt u (i' + m) = 10)) (he : (lex s i).2 = (i + n : Nat)) :
    lex u i' = ((lex s i).1, ((i' + n : Nat) : Int)) := by
  obtain ⟨e, he', h1, h2⟩ := lex_gt s i hi hk
  obtain rfl : e = i + n := by omega
  clear he'
  have H1 := H.1; have H2 := H.2.1
  have hm : 0 < m := by omega
  have hi' : i' < u.size := by omega
  have b0 := same_bt H hm
  rw [Nat.add_zero, Nat.add_zero] at b0
  have hasc : bt s i < 128 → rd u i' = rd s i := fun g => by
    rw [rd_ascii hi g, rd_ascii hi' (by rw [b0]; exact g), b0]
  have next : ∀ c, (i' + 1 < u.size ∧ bt u i' = 47 ∧ bt u (i' + 1) = c) → blankB c = false → i + 1 < s.size ∧ bt s i = 47 ∧ bt s (i + 1) = c := fun c g gb => by
    rcases same_next H hm g.1 with ⟨k1, k2, k3⟩ | k
    · exact ⟨k3, by rw [← b0]; exact g.2.1, by rw [← k2]; exact g.2.2⟩
    · rw [g.2.2, gb] at k; cases k
  by_cases c1 : (rd s i).1 = 65279
  · exfalso; apply h10
    unfold lex; rw [if_pos c1]
  by_cases c2 : blank (rd s i).1 = true
  · exfalso; apply h10
    unfold lex; rw [if_neg c1, if_pos c2]
  by_cases c3 : i + 1 < s.size ∧ bt s i = 47 ∧ bt s (i + 1) = 47
  · have hl : lex s i = (11, (lineTo s i : Int)) := by unfold lex; rw [if_neg c1, if_neg c2, if_pos c3]
    rw [hl] at he h11 ⊢
    obtain ⟨rfl, hst⟩ := h11 rfl
    simp only [] at he
    have hr := hasc (by omega)
    have h3 : 2 ≤ n := by
      have : lineTo s i = lineTo s (i + 1 + 1) := by rw [lineTo, if_pos ⟨hi, by omega⟩, lineTo, if_pos ⟨c3.1, by omega⟩]
      have := (lineTo_le s (i + 1 + 1) (by omega)).1
      omega
    have b1 := same_bt H (j := 1) (by omega)
    have hf := lineTo_to (u := u) (i' + n) H2 hst i' (by omega) (fun j g1 g2 => by
      have := same_bt H (j := j - i') (by omega)
      rw [show i' + (j - i') = j by omega] at this
      rw [this]
      exact (lineTo_in (s := s) i _ (by omega) (by omega)).2)
    unfold lex
    rw [hr, if_neg c1, if_neg c2, if_pos ⟨by omega, by rw [b0]; exact c3.2.1, by rw [b1]; exact c3.2.2⟩, hf]
  have n3 : ¬ (i' + 1 < u.size ∧ bt u i' = 47 ∧ bt u (i' + 1) = 47) := fun g => c3 (next 47 g (by decide))
  by_cases c4 : i + 1 < s.size ∧ bt s i = 47 ∧ bt s (i + 1) = 42
  · have hl : lex s i = match blockTo s (i + 2) with | some e => (12, (e : Int)) | none => (0, 0) := by
      unfold lex; rw [if_neg c1, if_neg c2, if_neg c3, if_pos c4]
      cases blockTo s (i + 2) <;> rfl
    rw [hl] at he hk ⊢
    cases hb : blockTo s (i + 2) with
    | none => rw [hb] at hk; exact absurd rfl hk
    | some e' =>
      rw [hb] at he
      simp only [] at he ⊢
      obtain rfl : e' = i + n := by omega
      have hle := blockTo_le s (i + 2) _ hb
      have hr := hasc (by omega)
      have hp := blockTo_same H n hn 2 hb
      have b1 := same_bt H (j := 1) (by omega)
      unfold lex
      rw [hr, if_neg c1, if_neg c2, if_neg n3, if_pos ⟨by omega, by rw [b0]; exact c4.2.1, by rw [b1]; exact c4.2.2⟩, hp]
  have n4 : ¬ (i' + 1 < u.size ∧ bt u i' = 47 ∧ bt u (i' + 1) = 42) := fun g => c4 (next 42 g (by decide))
  by_cases c5 : letter (rd s i).1 = true
  · have hl : lex s i = if word (s.extract i (wordTo s i)) then (2, (wordTo s i : Int)) else (1, (wordTo s i : Int)) := by unfold lex; rw [if_neg c1, if_neg c2, if_neg c3, if_neg c4, if_pos c5]
    have h0 : (rd s i).1 ≠ 0 := fun h0 => by rw [h0] at c5; have := letter_zero; simp_all
    have hp := rd_pos h0
    have hw : inWord s i = true := by unfold inWord; simp [hp.1, c5]
    have hstep : wordTo s i = wordTo s (i + (rd s i).2) := by rw [wordTo, dif_pos ⟨hi, hw⟩]
    have hge := (wordTo_le s (i + (rd s i).2) hp.2).1
    have hew : wordTo s i = i + n := by
      rw [hl] at he
      split at he <;> (simp only [] at he; omega)
    have hr := same_rd H (j := 0) hm (by rw [Nat.add_zero]; exact hp.1) (by rw [Nat.add_zero]; omega)
    rw [Nat.add_zero, Nat.add_zero] at hr
    have hwp := wordTo_same H n hn 0 (Nat.zero_le _) hew
    rw [Nat.add_zero] at hwp
    have hext := same_ext H (a := 0) (b := n) hn
    rw [Nat.add_zero, Nat.add_zero] at hext
    rw [hl, hew]
    unfold lex
    rw [hr, if_neg c1, if_neg c2, if_neg n3, if_neg n4, if_pos c5, hwp, hext]
    split <;> rfl
  by_cases c6 : bt s i = 59
  · have hl : lex s i = (9, ((i + 1 : Nat) : Int)) := by unfold lex; rw [if_neg c1, if_neg c2, if_neg c3, if_neg c4, if_neg c5, if_pos c6]
    rw [hl] at he ⊢
    simp only [] at he
    obtain rfl : n = 1 := by omega
    have hr := hasc (by omega)
    unfold lex
    rw [hr, if_neg c1, if_neg c2, if_neg n3, if_neg n4, if_neg c5, if_pos (by rw [b0]; exact c6)]
  have n6 : ¬ bt u i' = 59 := by rw [b0]; exact c6
  by_cases c7 : (numScan s i).2.2 ≠ 15
  · have hb : numBegins s i = true := by
      unfold numScan at c7
      rw [Int.toNat_natCast] at c7
      by_cases g : (0 : Int) ≤ (i : Int) ∧ numBegins s i = true
      · exact g.2
      · rw [if_neg g] at c7; exact absurd rfl c7
    have hl : lex s i = ((numScan s i).1, (numScan s i).2.1) := by unfold lex; rw [if_neg c1, if_neg c2, if_neg c3, if_neg c4, if_neg c5, if_neg c6, if_pos c7]
    rw [hl] at he hk ⊢
    simp only [] at he hk ⊢
    obtain ⟨_, g2⟩ := numScan_same H hn hb hk he
    have hr := hasc (by
      rcases numBegins_two hb with g | ⟨g, _⟩
      · exact dval_low g
      · omega)
    unfold lex
    rw [hr, if_neg c1, if_neg c2, if_neg n3, if_neg n4, if_neg c5, if_neg n6, if_pos (by rw [g2]; simp), g2]
  have hnb : numBegins s i = false := by
    cases hb : numBegins s i with
    | false => rfl
    | true =>
      exfalso; apply c7
      unfold numScan
      rw [Int.toNat_natCast, if_pos ⟨by omega, hb⟩]
      split <;> simp
  have n7 : ¬ (numScan u (i' : Nat)).2.2 ≠ 15 := by
    unfold numScan
    rw [Int.toNat_natCast, if_neg (fun g => by have := numBegins_sameB H hm g.2; rw [hnb] at this; cases this)]
    simp
  by_cases c8 : (begun s i).2.2.2 ≠ 15
  · have hl : lex s i = ((begun s i).1, (begun s i).2.1) := by unfold lex; rw [if_neg c1, if_neg c2, if_neg c3, if_neg c4, if_neg c5, if_neg c6, if_neg c7, if_pos c8]
    rw [hl] at he hk ⊢
    simp only [] at he hk ⊢
    have hq : begun s i = ((begun s i).1, (begun s i).2.1, (begun s i).2.2.1, 0) := by rw [← begun_lim s i hk]
    have gm := (begun_ok hq).2.2
    rw [Int.toNat_natCast] at gm
    obtain ⟨g1, g2, g3⟩ := begun_same H hn hk he
    have hr := hasc (by unfold isMark at gm; simp at gm; omega)
    unfold lex
    rw [hr, if_neg c1, if_neg c2, if_neg n3, if_neg n4, if_neg c5, if_neg n6, if_neg n7, if_pos (by rw [g3]; decide), g1, g2]
  have hnm : isMark (bt s i) = false := by
    cases hm : isMark (bt s i) with
    | false => rfl
    | true =>
      exfalso; apply c8
      rw [begun_mark (by omega) (by omega) (by rw [Int.toNat_natCast]; exact hm), Int.toNat_natCast]
      unfold begunAt
      split
      · split <;> simp
      · split
        · split <;> simp
        · split <;> simp
  have n8 : ¬ (begun u (i' : Nat)).2.2.2 ≠ 15 := by
    rw [begun_no (i := i') (by rw [b0]; exact hnm)]; simp
  by_cases c9 : 0 < signL (byts (s.extract i s.size))
  · have hl : lex s i = (8, ((i + signL (byts (s.extract i s.size)) : Nat) : Int)) := by unfold lex; rw [if_neg c1, if_neg c2, if_neg c3, if_neg c4, if_neg c5, if_neg c6, if_neg c7, if_neg c8, if_pos c9]
    rw [hl] at he ⊢
    simp only [] at he
    have hsn : signL (byts (s.extract i s.size)) = n := by omega
    have hs := sign_same H c9 (by omega)
    have hr := hasc (sign_ascii hi c9)
    unfold lex
    rw [hr, if_neg c1, if_neg c2, if_neg n3, if_neg n4, if_neg c5, if_neg n6, if_neg n7, if_neg n8, if_pos (by rw [hs]; exact c9), hs, hsn]
  · exfalso; apply hk
    unfold lex; rw [if_neg c1, if_neg c2, if_neg c3, if_neg c4, if_neg c5, if_neg c6, if_neg c7, if_neg c8, if_neg c9]
end Go.Proofs.YtcnkcnalabjhgaaDoor
