/- A lexeme by itself, in plain Lean: bytes, characters, blanks and comments of a piece. -/
import Derived.Test.YtelfobnmiphdnaaGreatDoorLexP
namespace Go.Proofs.YtelfobnmiphdnaaGreatDoor
set_option linter.all false

theorem piece_size {s : ByteArray} {i e : Nat} (h1 : i ≤ e) (he : e ≤ s.size) : (s.extract i e).size = e - i := by
  rw [ByteArray.size_extract]; omega
theorem piece_bt {s : ByteArray} {i e j : Nat} (h : i + j < e) (he : e ≤ s.size) : bt (s.extract i e) j = bt s (i + j) := by
  unfold bt
  rw [get!_extract s i e j h he]
theorem cut3 (s : ByteArray) {i e : Nat} (h1 : i ≤ e) (he : e ≤ s.size) : s.extract 0 i ++ (s.extract i e ++ s.extract e s.size) = s := by
  rw [extract_all s i e s.size h1 he, extract_all s 0 i s.size (Nat.zero_le _) (by omega), extract_whole]
theorem piece_rd {s : ByteArray} {i e j : Nat} (h1 : i ≤ e) (he : e ≤ s.size) (h0 : (rd s (i + j)).2 ≠ 0) (h : i + j + (rd s (i + j)).2 ≤ e) : rd (s.extract i e) j = rd s (i + j) := by
  have hA : (s.extract 0 i).size = i := by rw [ByteArray.size_extract]; omega
  have hr : rd s (i + j) = rd (s.extract i e ++ s.extract e s.size) j := by
    have := rd_right (s.extract 0 i) (s.extract i e ++ s.extract e s.size) j
    rw [cut3 s h1 he, hA] at this
    exact this
  rw [hr] at h0 h ⊢
  exact rd_back _ _ j h0 (by rw [piece_size h1 he]; omega)
theorem blankTo_in {s : ByteArray} (i j : Nat) (h1 : i ≤ j) (h2 : j < blankTo s i) : j < s.size ∧ blankB (bt s j) = true := by
  rw [blankTo] at h2
  by_cases h : i < s.size ∧ blankB (bt s i) = true
  · rw [if_pos h] at h2
    by_cases e : i = j
    · subst e; exact h
    · exact blankTo_in (i + 1) j (by omega) h2
  · rw [if_neg h] at h2; omega
termination_by s.size - i
decreasing_by omega
theorem blankTo_full {s : ByteArray} (h : ∀ j, j < s.size → blankB (bt s j) = true) (i : Nat) (hi : i ≤ s.size) : blankTo s i = s.size := by
  rw [blankTo]
  by_cases hlt : i < s.size
  · rw [if_pos ⟨hlt, h i hlt⟩]; exact blankTo_full h (i + 1) hlt
  · rw [if_neg (fun g => hlt g.1)]; omega
termination_by s.size - i
decreasing_by omega
theorem lineTo_in {s : ByteArray} (i j : Nat) (h1 : i ≤ j) (h2 : j < lineTo s i) : j < s.size ∧ bt s j ≠ 10 := by
  rw [lineTo] at h2
  by_cases h : i < s.size ∧ bt s i ≠ 10
  · rw [if_pos h] at h2
    by_cases e : i = j
    · subst e; exact h
    · exact lineTo_in (i + 1) j (by omega) h2
  · rw [if_neg h] at h2; omega
termination_by s.size - i
decreasing_by omega
theorem lineTo_full {s : ByteArray} (h : ∀ j, j < s.size → bt s j ≠ 10) (i : Nat) (hi : i ≤ s.size) : lineTo s i = s.size := by
  rw [lineTo]
  by_cases hlt : i < s.size
  · rw [if_pos ⟨hlt, h i hlt⟩]; exact lineTo_full h (i + 1) hlt
  · rw [if_neg (fun g => hlt g.1)]; omega
termination_by s.size - i
decreasing_by omega
theorem blockTo_piece {s : ByteArray} {i e : Nat} (h1 : i ≤ e) (he : e ≤ s.size) (j : Nat) (h : blockTo s (i + j) = some e) : blockTo (s.extract i e) j = some (e - i) := by
  rw [blockTo] at h
  by_cases hlt : i + j + 1 < s.size
  · rw [if_pos hlt] at h
    by_cases hm : bt s (i + j) = 42 ∧ bt s (i + j + 1) = 47
    · rw [if_pos hm] at h
      simp only [Option.some.injEq] at h
      rw [blockTo, piece_size h1 he, if_pos (by omega), piece_bt (by omega) he, piece_bt (j := j + 1) (by omega) he, if_pos (by rw [show i + (j + 1) = i + j + 1 by omega]; exact hm)]
      congr 1; omega
    · rw [if_neg hm] at h
      have hle := blockTo_le s (i + j + 1) e h
      have := blockTo_piece h1 he (j + 1) (by rw [show i + (j + 1) = i + j + 1 by omega]; exact h)
      rw [blockTo, piece_size h1 he, if_pos (by omega), piece_bt (by omega) he, piece_bt (j := j + 1) (by omega) he, if_neg (by rw [show i + (j + 1) = i + j + 1 by omega]; exact hm)]
      exact this
  · rw [if_neg hlt] at h; cases h
termination_by s.size - j
decreasing_by omega
theorem wordTo_piece {s : ByteArray} {i : Nat} (hi : i ≤ s.size) (j : Nat) (h : i + j ≤ s.size) (he : wordTo s i = wordTo s (i + j)) : wordTo (s.extract i (wordTo s i)) j = wordTo s i - i := by
  have hle := (wordTo_le s i hi).2
  have hge := (wordTo_le s (i + j) h).1
  have hwi := (wordTo_le s i hi).1
  rw [wordTo]
  by_cases hw : i + j < s.size ∧ inWord s (i + j) = true
  · have hstep : wordTo s (i + j) = wordTo s (i + j + (rd s (i + j)).2) := by
      rw [wordTo, dif_pos hw]
    have h0 : (rd s (i + j)).2 ≠ 0 := by
      have := hw.2; unfold inWord at this; simp at this; exact this.1
    have hb : i + j + (rd s (i + j)).2 ≤ s.size := by
      rcases rd_cases s (i + j) hw.1 with ⟨hc, _⟩ | ⟨_, _, hn, _⟩
      · rw [hc] at h0; exact absurd rfl h0
      · exact hn
    have hge2 := (wordTo_le s (i + j + (rd s (i + j)).2) hb).1
    have hr := piece_rd (e := wordTo s i) hwi hle h0 (by omega)
    have hin : inWord (s.extract i (wordTo s i)) j = true := by
      have := hw.2; unfold inWord at this ⊢; rw [hr]; exact this
    rw [dif_pos ⟨by rw [piece_size hwi hle]; omega, hin⟩, hr]
    have := wordTo_piece hi (j + (rd s (i + j)).2) (by omega) (by rw [show i + (j + (rd s (i + j)).2) = i + j + (rd s (i + j)).2 by omega]; omega)
    exact this
  · have hstop : wordTo s (i + j) = i + j := by rw [wordTo, dif_neg hw]
    rw [dif_neg (fun g => by rw [piece_size hwi hle] at g; omega)]
    omega
termination_by s.size - j
decreasing_by omega
end Go.Proofs.YtelfobnmiphdnaaGreatDoor
namespace Go.Proofs.YtelfobnmiphdnaaGreatDoor
set_option linter.all false

theorem numCh_piece {s : ByteArray} {i e : Nat} (he : e ≤ s.size) (hex : Bool) (j : Nat) (h : i + j < e) : numCh (s.extract i e) 0 hex j = numCh s i hex (i + j) := by
  have h1 := piece_bt (j := j) h he
  unfold numCh
  rw [h1]
  by_cases h0 : j = 0
  · subst h0; simp
  · have h2 := piece_bt (j := j - 1) (show i + (j - 1) < e by omega) he
    rw [h2, show i + (j - 1) = i + j - 1 by omega, show decide (0 < j) = decide (i < i + j) by simp]
theorem numTo_piece {s : ByteArray} {i : Nat} (hi : i ≤ s.size) (hex : Bool) (j : Nat) (h : i + j ≤ s.size) (he : numTo s i hex i = numTo s i hex (i + j)) :
    numTo (s.extract i (numTo s i hex i)) 0 hex j = numTo s i hex i - i := by
  have hle := (numTo_le s i hex i hi).2
  have hge := (numTo_le s i hex (i + j) h).1
  have hwi := (numTo_le s i hex i hi).1
  by_cases hw : i + j < s.size ∧ numCh s i hex (i + j) = true
  · have hstep := numTo_yes (a := i) hw.1 hw.2
    have hge2 := (numTo_le s i hex (i + j + 1) hw.1).1
    rw [numTo_yes (by rw [piece_size hwi hle]; omega) (by rw [numCh_piece hle hex j (by omega)]; exact hw.2)]
    exact numTo_piece hi hex (j + 1) (by omega) (by rw [show i + (j + 1) = i + j + 1 by omega, he, hstep])
  · have hstop := numTo_no hw
    rw [numTo_no (fun g => by rw [piece_size hwi hle] at g; omega)]
    omega
termination_by s.size - j
decreasing_by omega
theorem numEnd_two {s : ByteArray} {i : Nat} (hi : i + 1 < s.size) (h1 : numCh s i (numHex s i) i = true) (h2 : numCh s i (numHex s i) (i + 1) = true) : i + 2 ≤ numEnd s i := by
  unfold numEnd
  rw [numTo_yes (by omega) h1, numTo_yes hi h2]
  exact (numTo_le s i _ (i + 2) (by omega)).1
theorem numHex_piece {s : ByteArray} {i : Nat} (hi : i < s.size) : numHex (s.extract i (numEnd s i)) 0 = numHex s i := by
  have hle : i ≤ numEnd s i ∧ numEnd s i ≤ s.size := numTo_le s i _ i (by omega)
  cases hx : numHex s i with
  | true =>
    have hx' := hx
    unfold numHex at hx'
    simp only [Bool.and_eq_true, decide_eq_true_eq] at hx'
    obtain ⟨g1, g2, g3⟩ := hx'
    have h2 := numEnd_two g1 (by unfold numCh; rw [g2]; simp [dval]) (by unfold numCh; rcases g3 with g3 | g3 <;> rw [g3] <;> simp)
    unfold numHex
    rw [piece_size hle.1 hle.2, piece_bt (by omega) hle.2, piece_bt (j := 0 + 1) (by omega) hle.2]
    simp only [Nat.add_zero, Nat.zero_add, g2]
    simp
    exact ⟨by omega, g3⟩
  | false =>
    cases hp : numHex (s.extract i (numEnd s i)) 0 with
    | false => rfl
    | true =>
      exfalso
      unfold numHex at hp
      simp only [Bool.and_eq_true, decide_eq_true_eq] at hp
      obtain ⟨g1, g2, g3⟩ := hp
      rw [piece_size hle.1 hle.2] at g1
      rw [piece_bt (by omega) hle.2] at g2
      rw [piece_bt (by omega) hle.2, ] at g3
      simp only [Nat.add_zero, Nat.zero_add] at g2 g3
      have : numHex s i = true := by unfold numHex; simp [g2, g3]; omega
      rw [hx] at this; cases this
theorem numEnd_piece {s : ByteArray} {i : Nat} (hi : i < s.size) : numEnd (s.extract i (numEnd s i)) 0 = numEnd s i - i := by
  have h1 := numHex_piece hi
  have := numTo_piece (s := s) (i := i) (by omega) (numHex s i) 0 (by omega) rfl
  show numTo (s.extract i (numEnd s i)) 0 (numHex (s.extract i (numEnd s i)) 0) 0 = _
  rw [h1]
  exact this
theorem numBegins_back {s : ByteArray} {i e : Nat} (h1 : i < e) (he : e ≤ s.size) (h : numBegins (s.extract i e) 0 = true) : numBegins s i = true := by
  unfold numBegins at h ⊢
  simp only [Bool.and_eq_true, decide_eq_true_eq, Bool.or_eq_true, piece_size (Nat.le_of_lt h1) he, Nat.zero_add] at h ⊢
  obtain ⟨_, h⟩ := h
  have e0 := piece_bt (s := s) (i := i) (j := 0) (by omega) he
  rw [e0, Nat.add_zero] at h
  refine ⟨by omega, ?_⟩
  rcases h with h | ⟨h, h2, h3⟩
  · exact Or.inl h
  · have e1 := piece_bt (s := s) (i := i) (e := e) (j := 1) (by omega) he
    rw [e1] at h3
    exact Or.inr ⟨h, by omega, h3⟩
theorem numBegins_piece {s : ByteArray} {i : Nat} (h : numBegins s i = true) : numBegins (s.extract i (numEnd s i)) 0 = true := by
  have hg := numEnd_gt h
  unfold numBegins at h ⊢
  simp only [Bool.and_eq_true, decide_eq_true_eq, Bool.or_eq_true, piece_size (Nat.le_of_lt hg.1) hg.2, Nat.zero_add] at h ⊢
  obtain ⟨h0, h⟩ := h
  have e0 := piece_bt (s := s) (i := i) (e := numEnd s i) (j := 0) (by omega) hg.2
  rw [e0, Nat.add_zero]
  refine ⟨by omega, ?_⟩
  rcases h with h | ⟨h, h2, h3⟩
  · exact Or.inl h
  · have h4 := numEnd_two h2 (by unfold numCh; rw [h]; simp) (by unfold numCh; simp [h3])
    have e1 := piece_bt (s := s) (i := i) (e := numEnd s i) (j := 1) (by omega) hg.2
    rw [e1]
    exact Or.inr ⟨h, by omega, h3⟩
theorem numScan_piece {s : ByteArray} {i : Nat} (hb : numBegins s i = true) (hk : (numScan s i).1 ≠ 0) :
    (numScan s i).2.1 = (numEnd s i : Nat) ∧ numScan (s.extract i (numEnd s i)) 0 = ((numScan s i).1, ((numEnd s i - i : Nat) : Int), 0) := by
  have hg := numEnd_gt hb
  have hp := numBegins_piece hb
  have hep := numEnd_piece (s := s) (i := i) (by omega)
  have hw : (s.extract i (numEnd s i)).extract 0 (numEnd s i - i) = s.extract i (numEnd s i) := by
    have := extract_whole (s.extract i (numEnd s i))
    rw [piece_size (Nat.le_of_lt hg.1) hg.2] at this
    exact this
  unfold numScan at hk ⊢
  simp only [Int.toNat_natCast] at hk ⊢
  rw [if_pos ⟨by omega, hb⟩] at hk ⊢
  by_cases h : kindL (byts (s.extract i (numEnd s i))) ≠ 0
  · rw [if_pos h]
    refine ⟨rfl, ?_⟩
    rw [if_pos ⟨by omega, hp⟩]
    simp only [Int.toNat_zero]
    rw [hep, hw, if_pos h]
  · rw [if_neg h] at hk; exact absurd rfl hk
theorem signL_take (l : List Nat) : signL (l.take (signL l)) = signL l := by
  have l2 : ∀ m : List Nat, m.length ≤ 2 → signs3.contains m = false := by
    intro m hm
    cases h : signs3.contains m with
    | false => rfl
    | true =>
      have := (show ∀ l ∈ signs3, l.length = 3 by decide +kernel) _ (List.contains_iff_mem.1 h)
      omega
  have l1 : ∀ m : List Nat, m.length ≤ 1 → signs2.contains m = false := by
    intro m hm
    cases h : signs2.contains m with
    | false => rfl
    | true =>
      have := (show ∀ l ∈ signs2, l.length = 2 by decide +kernel) _ (List.contains_iff_mem.1 h)
      omega
  by_cases c3 : signs3.contains (l.take 3) = true
  · have : signL l = 3 := by unfold signL; rw [if_pos c3]
    rw [this]; unfold signL; rw [List.take_take, if_pos (by simpa using c3)]
  · by_cases c2 : signs2.contains (l.take 2) = true
    · have : signL l = 2 := by unfold signL; rw [if_neg c3, if_pos c2]
      rw [this]; unfold signL
      rw [if_neg (by rw [l2 _ (by rw [List.length_take, List.length_take]; omega)]; simp), List.take_take, if_pos (by simpa using c2)]
    · by_cases c1 : signs1.contains (l.take 1) = true
      · have : signL l = 1 := by unfold signL; rw [if_neg c3, if_neg c2, if_pos c1]
        rw [this]; unfold signL
        rw [if_neg (by rw [l2 _ (by rw [List.length_take, List.length_take]; omega)]; simp), if_neg (by rw [l1 _ (by rw [List.length_take, List.length_take]; omega)]; simp), List.take_take, if_pos (by simpa using c1)]
      · have : signL l = 0 := by unfold signL; rw [if_neg c3, if_neg c2, if_neg c1]
        rw [this, List.take_zero]; decide +kernel
end Go.Proofs.YtelfobnmiphdnaaGreatDoor
namespace Go.Proofs.YtelfobnmiphdnaaGreatDoor
set_option linter.all false

theorem begun_piece {s : ByteArray} {i : Nat} (h : (begun s i).1 ≠ 0) : ∃ n : Nat, (begun s i).2.1 = n ∧ i + 2 ≤ n ∧ n ≤ s.size ∧ isMark (bt s i) = true ∧ (begun (s.extract i n) 0).1 = (begun s i).1 ∧ (begun (s.extract i n) 0).2.1 = ((n - i : Nat) : Int) := by
  have he := begun_lim s i h
  have hq : begun s i = ((begun s i).1, (begun s i).2.1, (begun s i).2.2.1, 0) := by rw [← he]
  have hm := (begun_ok hq).2.2
  obtain ⟨j, n, g1, g2, g3, g4, g5, g6, g7, g8⟩ := begun_found s i _ _ _ hq
  have hj : j = i := by omega
  subst hj
  rw [Int.toNat_natCast] at hm
  obtain ⟨k', hk'⟩ := value_ok g6
  have z := piece_size (s := s) (i := j) (e := n) (by omega) g4
  have b0 := piece_bt (s := s) (i := j) (e := n) (j := 0) (by omega) g4
  obtain ⟨j', n', f1, f2, f3, f4, f5, f6, f7, f8⟩ := begun_found (s.extract j n) 0 _ _ _ hk'
  have hj' : j' = 0 := by omega
  subst hj'
  rw [b0, Nat.add_zero] at f8
  refine ⟨n, g2, g3, g4, hm, ?_, ?_⟩
  · rw [hk']
    rcases g8 with ⟨a1, a2⟩ | ⟨a1, a2⟩ <;> rcases f8 with ⟨a3, a4⟩ | ⟨a3, a4⟩
    · rw [a1]; exact a3
    · exact absurd a2 a4
    · exact absurd a4 a2
    · rw [a1]; exact a3
  · rw [hk']; simp only [z]
theorem byts_app (a b : ByteArray) : byts (a ++ b) = byts a ++ byts b := by
  unfold byts
  rw [ByteArray.data_append, Array.toList_append, List.map_append]
theorem headD_take (l : List Nat) (n : Nat) (h : 0 < n) : (l.take n).headD 0 = l.headD 0 := by
  cases l with
  | nil => rw [List.take_nil]
  | cons y l => obtain ⟨m, rfl⟩ : ∃ m, n = m + 1 := ⟨n - 1, by omega⟩; rfl
theorem signs_low3 : ∀ m ∈ signs3, m.headD 0 < 128 := by decide +kernel
theorem signs_low2 : ∀ m ∈ signs2, m.headD 0 < 128 := by decide +kernel
theorem signs_low1 : ∀ m ∈ signs1, m.headD 0 < 128 := by decide +kernel
theorem sign_lead (l : List Nat) (h : 0 < signL l) : l.headD 0 < 128 := by
  unfold signL at h
  by_cases c3 : signs3.contains (l.take 3) = true
  · have := signs_low3 _ (List.contains_iff_mem.1 c3)
    rwa [headD_take _ _ (by omega)] at this
  · rw [if_neg c3] at h
    by_cases c2 : signs2.contains (l.take 2) = true
    · have := signs_low2 _ (List.contains_iff_mem.1 c2)
      rwa [headD_take _ _ (by omega)] at this
    · rw [if_neg c2] at h
      by_cases c1 : signs1.contains (l.take 1) = true
      · have := signs_low1 _ (List.contains_iff_mem.1 c1)
        rwa [headD_take _ _ (by omega)] at this
      · rw [if_neg c1] at h; exact absurd h (by omega)
theorem byts_headD {s : ByteArray} (i : Nat) (h : i < s.size) : (byts (s.extract i s.size)).headD 0 = bt s i := by
  have h1 := byts_get (s.extract i s.size) 0 (by rw [ByteArray.size_extract]; omega)
  rw [piece_bt (j := 0) (by omega) (Nat.le_refl _), Nat.add_zero] at h1
  generalize byts (s.extract i s.size) = l at h1 ⊢
  cases l with
  | nil => cases h1
  | cons y l => simpa using h1
theorem sign_ascii {s : ByteArray} {i : Nat} (hi : i < s.size) (h : 0 < signL (byts (s.extract i s.size))) : bt s i < 128 := by
  have := sign_lead _ h
  rwa [byts_headD i hi] at this
theorem sign_piece {s : ByteArray} {i e : Nat} (h1 : i ≤ e) (he : e ≤ s.size) (hn : signL (byts (s.extract i s.size)) = e - i) : signL (byts (s.extract i e)) = e - i := by
  have hb : byts (s.extract i s.size) = byts (s.extract i e) ++ byts (s.extract e s.size) := by
    rw [← extract_all s i e s.size h1 he, byts_app]
  have hl : (byts (s.extract i e)).length = e - i := by rw [byts_length, piece_size h1 he]
  have hpl : byts (s.extract i e) = (byts (s.extract i s.size)).take (signL (byts (s.extract i s.size))) := by
    rw [hn, hb, List.take_append_of_le_length (by omega), List.take_of_length_le (by omega)]
  rw [hpl, signL_take, hn]
end Go.Proofs.YtelfobnmiphdnaaGreatDoor
namespace Go.Proofs.YtelfobnmiphdnaaGreatDoor
set_option linter.all false
attribute [local irreducible] signL byts

theorem end_of {i m e : Nat} (h : ((i + m : Nat) : Int) = (e : Int)) : m = e - i := by omega
theorem lex_sign_at {p : ByteArray} {j n : Nat} (c1 : ¬ (rd p j).1 = 65279) (c2 : ¬ blank (rd p j).1 = true) (c3 : ¬ (j + 1 < p.size ∧ bt p j = 47 ∧ bt p (j + 1) = 47)) (c4 : ¬ (j + 1 < p.size ∧ bt p j = 47 ∧ bt p (j + 1) = 42))
    (c5 : ¬ letter (rd p j).1 = true) (c6 : ¬ bt p j = 59) (c7 : ¬ (numScan p (j : Nat)).2.2 ≠ 15) (c8 : ¬ (begun p (j : Nat)).2.2.2 ≠ 15) (hn : signL (byts (p.extract j p.size)) = n) (h0 : 0 < n) : lex p j = (8, ((j + n : Nat) : Int)) := by
  unfold lex
  rw [if_neg c1, if_neg c2, if_neg c3, if_neg c4, if_neg c5, if_neg c6, if_neg c7, if_neg c8, hn, if_pos h0]
theorem lex_none_at {p : ByteArray} {j : Nat} (c1 : ¬ (rd p j).1 = 65279) (c2 : ¬ blank (rd p j).1 = true) (c3 : ¬ (j + 1 < p.size ∧ bt p j = 47 ∧ bt p (j + 1) = 47)) (c4 : ¬ (j + 1 < p.size ∧ bt p j = 47 ∧ bt p (j + 1) = 42))
    (c5 : ¬ letter (rd p j).1 = true) (c6 : ¬ bt p j = 59) (c7 : ¬ (numScan p (j : Nat)).2.2 ≠ 15) (c8 : ¬ (begun p (j : Nat)).2.2.2 ≠ 15) (hn : signL (byts (p.extract j p.size)) = 0) : (lex p j).1 = 0 := by
  unfold lex
  rw [if_neg c1, if_neg c2, if_neg c3, if_neg c4, if_neg c5, if_neg c6, if_neg c7, if_neg c8, hn, if_neg (by omega)]
set_option maxHeartbeats 2000000
/-- The piece of a lexeme is a lexeme of its kind. -/
theorem lex_piece (s : ByteArray) (i : Nat) (hi : i < s.size) (h : (lex s i).1 ≠ 0) :
    ∃ e : Nat, (lex s i).2 = e ∧ i < e ∧ e ≤ s.size ∧ lex (s.extract i e) 0 = ((lex s i).1, ((e - i : Nat) : Int)) := by
  obtain ⟨e, he, h1, h2⟩ := lex_gt s i hi h
  refine ⟨e, he, h1, h2, ?_⟩
  have z := piece_size (Nat.le_of_lt h1) h2
  have b0 := piece_bt (s := s) (i := i) (e := e) (j := 0) (by omega) h2
  have b1 : i + 1 < e → bt (s.extract i e) (0 + 1) = bt s (i + 1) := fun g => piece_bt (s := s) (i := i) (e := e) (j := 1) g h2
  rw [Nat.add_zero] at b0
  have hrd : (rd s i).2 ≠ 0 → i + (rd s i).2 ≤ e → rd (s.extract i e) 0 = rd s i := fun g1 g2 => piece_rd (j := 0) (Nat.le_of_lt h1) h2 g1 g2
  have hasc : bt s i < 128 → rd (s.extract i e) 0 = rd s i := fun g => by
    have := rd_ascii hi g
    exact hrd (by rw [this]; simp) (by rw [this]; show i + 1 ≤ e; omega)
  by_cases c1 : (rd s i).1 = 65279
  · have hl : lex s i = (10, ((i + (rd s i).2 : Nat) : Int)) := by unfold lex; rw [if_pos c1]
    rw [hl] at he ⊢
    simp only [] at he
    have hw := rd_pos (s := s) (i := i) (by omega)
    have hr := hrd hw.1 (by omega)
    unfold lex
    rw [hr, if_pos c1]
    congr 1; omega
  by_cases c2 : blank (rd s i).1 = true
  · have hl : lex s i = (10, (blankTo s i : Int)) := by unfold lex; rw [if_neg c1, if_pos c2]
    rw [hl] at he ⊢
    simp only [] at he
    have hbb := (blank_byte c2).2
    have hr := hasc (by unfold blankB at hbb; simp at hbb; omega)
    have hf := blankTo_full (s := s.extract i e) (fun j hj => by rw [z] at hj; rw [piece_bt (by omega) h2]; exact (blankTo_in i (i + j) (by omega) (by omega)).2) 0 (Nat.zero_le _)
    unfold lex
    rw [hr, if_neg c1, if_pos c2, hf, z]
  by_cases c3 : i + 1 < s.size ∧ bt s i = 47 ∧ bt s (i + 1) = 47
  · have hl : lex s i = (11, (lineTo s i : Int)) := by unfold lex; rw [if_neg c1, if_neg c2, if_pos c3]
    rw [hl] at he ⊢
    simp only [] at he
    have hr := hasc (by omega)
    have h3 : i + 1 < e := by
      have : lineTo s i = lineTo s (i + 1 + 1) := by rw [lineTo, if_pos ⟨hi, by omega⟩, lineTo, if_pos ⟨c3.1, by omega⟩]
      have := (lineTo_le s (i + 1 + 1) (by omega)).1
      omega
    have hf := lineTo_full (s := s.extract i e) (fun j hj => by rw [z] at hj; rw [piece_bt (by omega) h2]; exact (lineTo_in i (i + j) (by omega) (by omega)).2) 0 (Nat.zero_le _)
    unfold lex
    rw [hr, if_neg c1, if_neg c2, if_pos ⟨by omega, by rw [b0]; exact c3.2.1, by rw [b1 h3]; exact c3.2.2⟩, hf, z]
  have n3 : ¬ (0 + 1 < (s.extract i e).size ∧ bt (s.extract i e) 0 = 47 ∧ bt (s.extract i e) (0 + 1) = 47) := fun g => by
    rw [z] at g; rw [b0, b1 (by omega)] at g; exact c3 ⟨by omega, g.2⟩
  by_cases c4 : i + 1 < s.size ∧ bt s i = 47 ∧ bt s (i + 1) = 42
  · have hl : lex s i = match blockTo s (i + 2) with | some e => (12, (e : Int)) | none => (0, 0) := by
      unfold lex; rw [if_neg c1, if_neg c2, if_neg c3, if_pos c4]
      cases blockTo s (i + 2) <;> rfl
    rw [hl] at he h ⊢
    cases hb : blockTo s (i + 2) with
    | none => rw [hb] at h; exact absurd rfl h
    | some e' =>
      rw [hb] at he
      simp only [] at he ⊢
      obtain rfl : e' = e := by omega
      have hle := blockTo_le s (i + 2) e' hb
      have hr := hasc (by omega)
      have hp := blockTo_piece (Nat.le_of_lt h1) h2 2 hb
      unfold lex
      rw [hr, if_neg c1, if_neg c2, if_neg n3, if_pos ⟨by omega, by rw [b0]; exact c4.2.1, by rw [b1 (by omega)]; exact c4.2.2⟩, Nat.zero_add, hp]
  have n4 : ¬ (0 + 1 < (s.extract i e).size ∧ bt (s.extract i e) 0 = 47 ∧ bt (s.extract i e) (0 + 1) = 42) := fun g => by
    rw [z] at g; rw [b0, b1 (by omega)] at g; exact c4 ⟨by omega, g.2⟩
  have hwh : (s.extract i e).extract 0 (e - i) = s.extract i e := by
    have := extract_whole (s.extract i e)
    rw [z] at this
    exact this
  by_cases c5 : letter (rd s i).1 = true
  · have hl : lex s i = if word (s.extract i (wordTo s i)) then (2, (wordTo s i : Int)) else (1, (wordTo s i : Int)) := by unfold lex; rw [if_neg c1, if_neg c2, if_neg c3, if_neg c4, if_pos c5]
    have h0 : (rd s i).1 ≠ 0 := fun h0 => by rw [h0] at c5; have := letter_zero; simp_all
    have hp := rd_pos h0
    have hw : inWord s i = true := by unfold inWord; simp [hp.1, c5]
    have hstep : wordTo s i = wordTo s (i + (rd s i).2) := by rw [wordTo, dif_pos ⟨hi, hw⟩]
    have hge := (wordTo_le s (i + (rd s i).2) hp.2).1
    have hew : wordTo s i = e := by
      rw [hl] at he
      split at he <;> (simp only [] at he; omega)
    have hr := hrd hp.1 (by omega)
    have hwp := wordTo_piece (s := s) (i := i) (by omega) 0 (by omega) rfl
    rw [hl, hew]
    rw [hew] at hwp
    unfold lex
    rw [hr, if_neg c1, if_neg c2, if_neg n3, if_neg n4, if_pos c5, hwp, hwh]
    split <;> rfl
  by_cases c6 : bt s i = 59
  · have hl : lex s i = (9, ((i + 1 : Nat) : Int)) := by unfold lex; rw [if_neg c1, if_neg c2, if_neg c3, if_neg c4, if_neg c5, if_pos c6]
    rw [hl] at he ⊢
    simp only [] at he
    have hr := hasc (by omega)
    unfold lex
    rw [hr, if_neg c1, if_neg c2, if_neg n3, if_neg n4, if_neg c5, if_pos (by rw [b0]; exact c6)]
    congr 1; omega
  have n6 : ¬ bt (s.extract i e) 0 = 59 := by rw [b0]; exact c6
  by_cases c7 : (numScan s i).2.2 ≠ 15
  · have hb : numBegins s i = true := by
      unfold numScan at c7
      rw [Int.toNat_natCast] at c7
      by_cases g : (0 : Int) ≤ (i : Int) ∧ numBegins s i = true
      · exact g.2
      · rw [if_neg g] at c7; exact absurd rfl c7
    have hl : lex s i = ((numScan s i).1, (numScan s i).2.1) := by unfold lex; rw [if_neg c1, if_neg c2, if_neg c3, if_neg c4, if_neg c5, if_neg c6, if_pos c7]
    rw [hl] at he h ⊢
    simp only [] at he h ⊢
    obtain ⟨g1, g2⟩ := numScan_piece hb h
    obtain rfl : numEnd s i = e := by omega
    have hr := hasc (by
      unfold numBegins at hb
      simp only [Bool.and_eq_true, decide_eq_true_eq, Bool.or_eq_true] at hb
      rcases hb.2 with g | g
      · unfold dval at g; split at g <;> (try split at g) <;> (try split at g) <;> omega
      · omega)
    unfold lex
    rw [hr, if_neg c1, if_neg c2, if_neg n3, if_neg n4, if_neg c5, if_neg n6, if_pos (by show (numScan _ 0).2.2 ≠ 15; rw [g2]; simp)]
    show ((numScan _ 0).1, (numScan _ 0).2.1) = _
    rw [g2]
  have hnb : numBegins s i = false := by
    cases hb : numBegins s i with
    | false => rfl
    | true =>
      exfalso; apply c7
      unfold numScan
      rw [Int.toNat_natCast, if_pos ⟨by omega, hb⟩]
      split <;> simp
  have n7 : ¬ (numScan (s.extract i e) ((0 : Nat) : Int)).2.2 ≠ 15 := by
    unfold numScan
    rw [Int.toNat_natCast, if_neg (fun g => by have := numBegins_back h1 h2 g.2; rw [hnb] at this; cases this)]
    simp
  by_cases c8 : (begun s i).2.2.2 ≠ 15
  · have hl : lex s i = ((begun s i).1, (begun s i).2.1) := by unfold lex; rw [if_neg c1, if_neg c2, if_neg c3, if_neg c4, if_neg c5, if_neg c6, if_neg c7, if_pos c8]
    rw [hl] at he h ⊢
    simp only [] at he h ⊢
    obtain ⟨n, g1, g2, g3, gm, g4, g5⟩ := begun_piece h
    obtain rfl : n = e := by omega
    have hr := hasc (by unfold isMark at gm; simp at gm; omega)
    have hz : (begun (s.extract i n) ((0 : Nat) : Int)).2.2.2 = 0 := begun_lim _ 0 (by show (begun (s.extract i n) 0).1 ≠ 0; rw [g4]; exact h)
    unfold lex
    rw [hr, if_neg c1, if_neg c2, if_neg n3, if_neg n4, if_neg c5, if_neg n6, if_neg n7, if_pos (by rw [hz]; decide)]
    show ((begun _ 0).1, (begun _ 0).2.1) = _
    rw [g4, g5]
  have hnm : isMark (bt s i) = false := by
    cases hm : isMark (bt s i) with
    | false => rfl
    | true =>
      exfalso; apply c8
      rw [begun_mark (by omega) (by omega) (by rw [Int.toNat_natCast]; exact hm), Int.toNat_natCast]
      unfold begunAt
      split
      · split <;> simp
      · split
        · split <;> simp
        · split <;> simp
  have n8 : ¬ (begun (s.extract i e) ((0 : Nat) : Int)).2.2.2 ≠ 15 := by
    rw [begun_no (i := 0) (by rw [b0]; exact hnm)]; simp
  obtain ⟨m, hm⟩ : ∃ m, signL (byts (s.extract i s.size)) = m := ⟨_, rfl⟩
  by_cases c9 : 0 < m
  · have hl := lex_sign_at c1 c2 c3 c4 c5 c6 c7 c8 hm c9
    rw [hl] at he ⊢
    simp only [] at he
    have hme : m = e - i := end_of he
    have hs : signL (byts ((s.extract i e).extract 0 (s.extract i e).size)) = e - i := by
      rw [extract_whole]; exact sign_piece (Nat.le_of_lt h1) h2 (hm.trans hme)
    have hr := hasc (sign_ascii hi (by rw [hm]; exact c9))
    have hl2 := lex_sign_at (p := s.extract i e) (j := 0) (by rw [hr]; exact c1) (by rw [hr]; exact c2) n3 n4 (by rw [hr]; exact c5) n6 n7 n8 hs (Nat.sub_pos_of_lt h1)
    rw [hl2, Nat.zero_add]
  · exact absurd (lex_none_at c1 c2 c3 c4 c5 c6 c7 c8 (hm.trans (Nat.eq_zero_of_not_pos c9))) h
end Go.Proofs.YtelfobnmiphdnaaGreatDoor
namespace Go.Proofs.YtelfobnmiphdnaaGreatDoor
set_option linter.all false
attribute [local irreducible] signL byts

theorem clean_good {s : ByteArray} {i : Nat} (hc : cleanZ s i < 0) (hi : i < s.size) : badHere s i = false ∧ (rd s i).2 ≠ 0 ∧ cleanZ s (i + (rd s i).2) < 0 := by
  have hb : badHere s i = false := by
    cases h : badHere s i
    · rfl
    · rw [clean_bad hi h] at hc; omega
  exact ⟨hb, good_width hb, by rw [← clean_step hi hb]; exact hc⟩
theorem clean_size (s : ByteArray) : cleanZ s s.size < 0 := by rw [clean_end (by omega)]; decide
theorem clean_at (s : ByteArray) (j : Nat) (hj : j < s.size) (hb : bt s j / 64 ≠ 2) (i : Nat) (hi : i ≤ j) (hc : cleanZ s i < 0) : cleanZ s j < 0 := by
  by_cases hlt : i < j
  · obtain ⟨_, h0, hn⟩ := clean_good hc (by omega)
    obtain ⟨l1, l2⟩ := rd_lead s i h0
    by_cases hle : i + (rd s i).2 ≤ j
    · exact clean_at s j hj hb _ hle hn
    · have := l2 (j - i) (by omega) (by omega)
      rw [show i + (j - i) = j by omega] at this
      exact absurd this hb
  · obtain rfl : i = j := by omega
    exact hc
termination_by j - i
decreasing_by omega
theorem clean_after {s : ByteArray} {i j : Nat} (hc : cleanZ s i < 0) (hi : i ≤ j) (hj : j < s.size) (hb : bt s j < 128) : cleanZ s (j + 1) < 0 := by
  have h := clean_at s j hj (by omega) i hi hc
  have := (clean_good h hj).2.2
  rwa [rd_ascii hj hb] at this
theorem dval_low {c : Nat} (h : dval c < 10) : c < 128 := by
  unfold dval at h
  split at h
  · omega
  · split at h
    · omega
    · split at h
      · omega
      · exact absurd h (by omega)
theorem numCh_low {s : ByteArray} {a i : Nat} {hex : Bool} (h : numCh s a hex i = true) : bt s i < 128 := by
  unfold numCh at h
  simp only [Bool.or_eq_true, Bool.and_eq_true, decide_eq_true_eq] at h
  rcases h with ((((h | h) | h) | h) | h) | h
  · omega
  · omega
  · exact dval_low h
  · omega
  · omega
  · omega
theorem numTo_in {s : ByteArray} {a : Nat} {hex : Bool} (i j : Nat) (h1 : i ≤ j) (h2 : j < numTo s a hex i) : j < s.size ∧ numCh s a hex j = true := by
  by_cases h : i < s.size ∧ numCh s a hex i = true
  · rw [numTo_yes h.1 h.2] at h2
    by_cases e : i = j
    · subst e; exact h
    · exact numTo_in (i + 1) j (by omega) h2
  · rw [numTo_no h] at h2; omega
termination_by s.size - i
decreasing_by omega
theorem blockTo_last {s : ByteArray} (i e : Nat) (h : blockTo s i = some e) : bt s (e - 1) = 47 := by
  rw [blockTo] at h
  by_cases hlt : i + 1 < s.size
  · rw [if_pos hlt] at h
    by_cases hm : bt s i = 42 ∧ bt s (i + 1) = 47
    · rw [if_pos hm] at h
      simp only [Option.some.injEq] at h
      rw [← h]; exact hm.2
    · rw [if_neg hm] at h
      exact blockTo_last (i + 1) e h
  · rw [if_neg hlt] at h; cases h
termination_by s.size - i
decreasing_by omega
theorem lineTo_stop (s : ByteArray) (i : Nat) (hi : i ≤ s.size) : lineTo s i = s.size ∨ (lineTo s i < s.size ∧ bt s (lineTo s i) = 10) := by
  rw [lineTo]
  by_cases h : i < s.size ∧ bt s i ≠ 10
  · rw [if_pos h]; exact lineTo_stop s (i + 1) (by omega)
  · rw [if_neg h]
    by_cases hlt : i < s.size
    · exact Or.inr ⟨hlt, by omega⟩
    · exact Or.inl (by omega)
termination_by s.size - i
decreasing_by omega
theorem word_clean {s : ByteArray} (i : Nat) (hi : i ≤ s.size) (hc : cleanZ s i < 0) : cleanZ s (wordTo s i) < 0 := by
  rw [wordTo]
  by_cases h : i < s.size ∧ inWord s i = true
  · rw [dif_pos h]
    obtain ⟨_, h0, hn⟩ := clean_good hc h.1
    have hw := rd_width s i
    exact word_clean _ (by omega) hn
  · rw [dif_neg h]; exact hc
termination_by s.size - i
decreasing_by omega
theorem getD_take (l : List Nat) (n j : Nat) (h : j < n) : (l.take n).getD j 0 = l.getD j 0 := by
  rw [List.getD_eq_getElem?_getD, List.getD_eq_getElem?_getD, List.getElem?_take, if_pos h]
theorem signs_all3 : ∀ m ∈ signs3, ∀ j < 3, m.getD j 0 < 128 := by decide +kernel
theorem signs_all2 : ∀ m ∈ signs2, ∀ j < 2, m.getD j 0 < 128 := by decide +kernel
theorem signs_all1 : ∀ m ∈ signs1, ∀ j < 1, m.getD j 0 < 128 := by decide +kernel
theorem sign_low (l : List Nat) (j : Nat) (h : j < signL l) : l.getD j 0 < 128 := by
  unfold signL at h
  by_cases c3 : signs3.contains (l.take 3) = true
  · rw [if_pos c3] at h
    have := signs_all3 _ (List.contains_iff_mem.1 c3) j h
    rwa [getD_take _ _ _ h] at this
  · rw [if_neg c3] at h
    by_cases c2 : signs2.contains (l.take 2) = true
    · rw [if_pos c2] at h
      have := signs_all2 _ (List.contains_iff_mem.1 c2) j h
      rwa [getD_take _ _ _ h] at this
    · rw [if_neg c2] at h
      by_cases c1 : signs1.contains (l.take 1) = true
      · rw [if_pos c1] at h
        have := signs_all1 _ (List.contains_iff_mem.1 c1) j h
        rwa [getD_take _ _ _ h] at this
      · rw [if_neg c1] at h; omega
theorem byts_getD {s : ByteArray} (i j : Nat) (h : i + j < s.size) : (byts (s.extract i s.size)).getD j 0 = bt s (i + j) := by
  have h1 := byts_get (s.extract i s.size) j (by rw [ByteArray.size_extract]; omega)
  rw [piece_bt (j := j) (by omega) (Nat.le_refl _)] at h1
  rw [List.getD_eq_getElem?_getD, h1]; rfl
theorem sign_last {s : ByteArray} (i n : Nat) (hn : signL (byts (s.extract i s.size)) = n) (h0 : 0 < n) (hb : i + n ≤ s.size) : bt s (i + n - 1) < 128 := by
  have := sign_low (byts (s.extract i s.size)) (n - 1) (by rw [hn]; omega)
  rw [byts_getD i (n - 1) (by omega)] at this
  rw [show i + n - 1 = i + (n - 1) by omega]
  exact this
/-- Where a lexeme of a clean text ends the text goes on clean. -/
theorem lex_clean (s : ByteArray) (i : Nat) (hi : i < s.size) (hc : cleanZ s i < 0) (e : Nat) (h : (lex s i).1 ≠ 0) (hE : (lex s i).2 = e) : cleanZ s e < 0 := by
  obtain ⟨e', he', h1, h2⟩ := lex_gt s i hi h
  obtain rfl : e' = e := by omega
  clear he'
  have after : bt s (e' - 1) < 128 → cleanZ s e' < 0 := fun hb => by
    have := clean_after (j := e' - 1) hc (by omega) (by omega) hb
    rwa [show e' - 1 + 1 = e' by omega] at this
  unfold lex at h hE
  split at hE
  · obtain rfl : i + (rd s i).2 = e' := by simp only [] at hE; omega
    exact (clean_good hc hi).2.2
  · rename_i c1
    rw [if_neg c1] at h
    split at hE
    · obtain rfl : blankTo s i = e' := by simp only [] at hE; omega
      have := (blankTo_in (s := s) i (blankTo s i - 1) (by omega) (by omega)).2
      exact after (by unfold blankB at this; simp at this; omega)
    · rename_i c2
      rw [if_neg c2] at h
      split at hE
      · obtain rfl : lineTo s i = e' := by simp only [] at hE; omega
        rcases lineTo_stop s i (by omega) with g | ⟨g1, g2⟩
        · rw [g]; exact clean_size s
        · exact clean_at s _ g1 (by rw [g2]; decide) i (by omega) hc
      · rename_i c3
        rw [if_neg c3] at h
        split at hE
        · rename_i c4
          rw [if_pos c4] at h
          cases hb : blockTo s (i + 2) with
          | none => rw [hb] at h; exact absurd rfl h
          | some e =>
            rw [hb] at hE
            obtain rfl : e = e' := by simp only [] at hE; omega
            exact after (by rw [blockTo_last _ _ hb]; decide)
        · rename_i c4
          rw [if_neg c4] at h
          split at hE
          · have : wordTo s i = e' := by
              split at hE <;> (simp only [] at hE; omega)
            rw [← this]
            exact word_clean i (by omega) hc
          · rename_i c5
            rw [if_neg c5] at h
            split at hE
            · rename_i c6
              obtain rfl : i + 1 = e' := by simp only [] at hE; omega
              exact after (by rw [show i + 1 - 1 = i by omega, c6]; decide)
            · rename_i c6
              rw [if_neg c6] at h
              split at hE
              · rename_i c7
                rw [if_pos c7] at h
                unfold numScan at h hE
                rw [Int.toNat_natCast] at h hE
                split at hE
                · rename_i c8
                  rw [if_pos c8] at h
                  split at hE
                  · obtain rfl : numEnd s i = e' := by simp only [] at hE; omega
                    exact after (numCh_low (numTo_in (s := s) (a := i) (hex := numHex s i) i (numEnd s i - 1) (by omega) (show numEnd s i - 1 < numEnd s i by omega)).2)
                  · rename_i c9
                    rw [if_neg c9] at h
                    exact absurd rfl h
                · rename_i c8
                  rw [if_neg c8] at h
                  exact absurd rfl h
              · rename_i c7
                rw [if_neg c7] at h
                split at hE
                · rename_i c8
                  rw [if_pos c8] at h
                  have he := begun_lim s i h
                  have hq : begun s i = ((begun s i).1, (begun s i).2.1, (begun s i).2.2.1, 0) := by rw [← he]
                  have hm := (begun_ok hq).2.2
                  obtain ⟨j, n, g1, g2, g3, g4, g5, _⟩ := begun_found s i (begun s i).1 (begun s i).2.1 (begun s i).2.2.1 hq
                  obtain rfl : n = e' := by omega
                  obtain rfl : j = i := by omega
                  rw [Int.toNat_natCast] at hm
                  exact after (by rw [← g5]; unfold isMark at hm; simp at hm; omega)
                · rename_i c8
                  rw [if_neg c8] at h
                  split at hE
                  · rename_i c9
                    simp only [] at hE
                    have hE := Int.ofNat_inj.1 hE
                    rw [← hE] at h2 after
                    rw [← hE]
                    exact after (sign_last i _ rfl c9 h2)
                  · rename_i c9
                    rw [if_neg c9] at h
                    exact absurd rfl h
theorem piece_clean {s : ByteArray} {i e : Nat} (h1 : i ≤ e) (he : e ≤ s.size) (hce : cleanZ s e < 0) (j : Nat) (hj : i + j ≤ e) (hc : cleanZ s (i + j) < 0) : cleanZ (s.extract i e) j < 0 := by
  by_cases hlt : i + j < e
  · obtain ⟨hb, h0, hn⟩ := clean_good hc (by omega)
    obtain ⟨l1, l2⟩ := rd_lead s (i + j) h0
    have hw := rd_width s (i + j)
    have hin : i + j + (rd s (i + j)).2 ≤ e := by
      rcases Nat.lt_or_ge e s.size with g | g
      · rcases Nat.lt_or_ge e (i + j + (rd s (i + j)).2) with g2 | g2
        · have hle := (rd_lead s e (clean_good hce g).2.1).1
          have := l2 (e - (i + j)) (by omega) (by omega)
          rw [show i + j + (e - (i + j)) = e by omega] at this
          exact absurd this hle
        · exact g2
      · omega
    have hr := piece_rd h1 he h0 hin
    have hbp : badHere (s.extract i e) j = false := by
      unfold badHere at hb ⊢
      simp only [Bool.or_eq_false_iff, decide_eq_false_iff_not, Bool.and_eq_false_iff] at hb ⊢
      rw [hr]
      exact ⟨hb.1, hb.2.imp id (fun h => by omega)⟩
    rw [clean_step (by rw [piece_size h1 he]; omega) hbp, hr]
    exact piece_clean h1 he hce (j + (rd s (i + j)).2) (by omega) (by rw [show i + (j + (rd s (i + j)).2) = i + j + (rd s (i + j)).2 by omega]; exact hn)
  · rw [clean_end (by rw [piece_size h1 he]; omega)]; decide
termination_by e - (i + j)
decreasing_by omega
end Go.Proofs.YtelfobnmiphdnaaGreatDoor
