/- The same bytes in two texts, in plain Lean: characters, words, comments and numbers that begin there. -/
import Derived.Test.YtelfobnmiphdnaaGreatDoorWholeP
namespace Go.Proofs.YtelfobnmiphdnaaGreatDoor
set_option linter.all false

/-- The same bytes at two places of two texts; in the second text a blank or the end stands behind them. -/
def SameAt (s : ByteArray) (i : Nat) (u : ByteArray) (i' m : Nat) : Prop :=
  i + m ≤ s.size ∧ i' + m ≤ u.size ∧ u.extract i' (i' + m) = s.extract i (i + m) ∧ (i' + m = u.size ∨ (i' + m < u.size ∧ blankB (bt u (i' + m)) = true))
theorem blankB_is {c : Nat} (h : blankB c = true) : c = 32 ∨ c = 9 ∨ c = 10 ∨ c = 13 := by
  unfold blankB at h; simp at h; omega
theorem same_bt {s u : ByteArray} {i i' m : Nat} (H : SameAt s i u i' m) {j : Nat} (h : j < m) : bt u (i' + j) = bt s (i + j) := by
  obtain ⟨h1, h2, h3, _⟩ := H
  rw [← piece_bt (s := u) (i := i') (e := i' + m) (j := j) (by omega) h2, ← piece_bt (s := s) (i := i) (e := i + m) (j := j) (by omega) h1, h3]
theorem extract_in (s : ByteArray) (i a b m : Nat) (h : b ≤ m) : (s.extract i (i + m)).extract a b = s.extract (i + a) (i + b) := by
  rw [ByteArray.extract_extract, Nat.min_eq_left (by omega)]
theorem same_ext {s u : ByteArray} {i i' m : Nat} (H : SameAt s i u i' m) {a b : Nat} (h : b ≤ m) : u.extract (i' + a) (i' + b) = s.extract (i + a) (i + b) := by
  rw [← extract_in u i' a b m h, ← extract_in s i a b m h, H.2.2.1]
theorem rd_of_piece {s : ByteArray} {i e j : Nat} (h1 : i ≤ e) (he : e ≤ s.size) (hj : i + j < e) (h0 : (rd (s.extract i e) j).2 ≠ 0) : rd s (i + j) = rd (s.extract i e) j := by
  have hA : (s.extract 0 i).size = i := by rw [ByteArray.size_extract]; omega
  have := rd_right (s.extract 0 i) (s.extract i e ++ s.extract e s.size) j
  rw [cut3 s h1 he, hA] at this
  rw [this]
  exact rd_left _ _ j (by rw [piece_size h1 he]; omega) h0
theorem same_rd {s u : ByteArray} {i i' m : Nat} (H : SameAt s i u i' m) {j : Nat} (hj : j < m) (h0 : (rd s (i + j)).2 ≠ 0) (h : j + (rd s (i + j)).2 ≤ m) : rd u (i' + j) = rd s (i + j) := by
  obtain ⟨h1, h2, h3, _⟩ := H
  have e1 := piece_rd (s := s) (i := i) (e := i + m) (j := j) (by omega) h1 h0 (by omega)
  rw [← e1, ← h3]
  refine rd_of_piece (by omega) h2 (by omega) ?_
  rw [h3, e1]; exact h0
theorem same_rd_back {s u : ByteArray} {i i' m : Nat} (H : SameAt s i u i' m) {j : Nat} (hj : j < m) (h0 : (rd u (i' + j)).2 ≠ 0) : rd s (i + j) = rd u (i' + j) := by
  obtain ⟨h1, h2, h3, h4⟩ := H
  have hin : i' + j + (rd u (i' + j)).2 ≤ i' + m := by
    have hw := rd_width u (i' + j)
    rcases h4 with h4 | ⟨h4, h5⟩
    · omega
    · rcases Nat.lt_or_ge (i' + m) (i' + j + (rd u (i' + j)).2) with g | g
      · have := (rd_lead u (i' + j) h0).2 (m - j) (by omega) (by omega)
        rw [show i' + j + (m - j) = i' + m by omega] at this
        have := blankB_is h5
        omega
      · exact g
  have e1 := piece_rd (s := u) (i := i') (e := i' + m) (j := j) (by omega) h2 h0 hin
  rw [← e1, h3]
  refine rd_of_piece (by omega) h1 (by omega) ?_
  rw [← h3, e1]; exact h0
theorem blank_noword : ∀ c : Nat, blankB c = true → letter c = false ∧ digit c = false := by
  have h : ∀ c ∈ [32, 9, 10, 13], letter c = false ∧ digit c = false := by unfold letter digit; decide +kernel
  intro c hc
  exact h c (by have := blankB_is hc; simp; omega)
theorem wordTo_same {s u : ByteArray} {i i' m : Nat} (H : SameAt s i u i' m) (n : Nat) (hn : n ≤ m) (j : Nat) (hj : j ≤ n) (h : wordTo s (i + j) = i + n) : wordTo u (i' + j) = i' + n := by
  have H1 := H.1; have H2 := H.2.1
  by_cases hw : i + j < s.size ∧ inWord s (i + j) = true
  · have hstep : wordTo s (i + j) = wordTo s (i + j + (rd s (i + j)).2) := by rw [wordTo, dif_pos hw]
    have h0 : (rd s (i + j)).2 ≠ 0 := by have := hw.2; unfold inWord at this; simp at this; exact this.1
    have hwd := rd_width s (i + j)
    have hle := (wordTo_le s (i + j + (rd s (i + j)).2) (by omega)).1
    rw [hstep] at h
    have hr := same_rd H (j := j) (by omega) h0 (by omega)
    have hin : inWord u (i' + j) = true := by have := hw.2; unfold inWord at this ⊢; rw [hr]; exact this
    rw [wordTo, dif_pos ⟨by omega, hin⟩, hr, Nat.add_assoc]
    exact wordTo_same H n hn (j + (rd s (i + j)).2) (by omega) (by rw [← Nat.add_assoc]; exact h)
  · have hstop : wordTo s (i + j) = i + j := by rw [wordTo, dif_neg hw]
    obtain rfl : j = n := by omega
    rw [wordTo, dif_neg]
    intro g
    have g2 := g.2
    rcases Nat.lt_or_ge j m with hlt | hge
    · have h0 : (rd u (i' + j)).2 ≠ 0 := by unfold inWord at g2; simp at g2; exact g2.1
      have hr := same_rd_back H hlt h0
      refine hw ⟨by omega, ?_⟩
      unfold inWord at g2 ⊢
      rw [hr]; exact g2
    · obtain rfl : j = m := by omega
      rcases H.2.2.2 with h4 | ⟨h4, h5⟩
      · omega
      · have hb := blankB_is h5
        have := rd_ascii (s := u) (i := i' + j) h4 (by omega)
        obtain ⟨n1, n2⟩ := blank_noword _ h5
        unfold inWord at g2
        rw [this] at g2
        simp [n1, n2] at g2
termination_by n - j
decreasing_by omega
theorem blockTo_same {s u : ByteArray} {i i' m : Nat} (H : SameAt s i u i' m) (n : Nat) (hn : n ≤ m) (j : Nat) (h : blockTo s (i + j) = some (i + n)) : blockTo u (i' + j) = some (i' + n) := by
  have H1 := H.1; have H2 := H.2.1
  have hle := blockTo_le s (i + j) _ h
  have b0 := same_bt H (j := j) (by omega)
  have b1 := same_bt H (j := j + 1) (by omega)
  rw [← Nat.add_assoc, ← Nat.add_assoc] at b1
  rw [blockTo] at h ⊢
  rw [if_pos (by omega)] at h ⊢
  rw [b0, b1]
  by_cases hm : bt s (i + j) = 42 ∧ bt s (i + j + 1) = 47
  · rw [if_pos hm] at h ⊢
    simp only [Option.some.injEq] at h ⊢
    omega
  · rw [if_neg hm] at h ⊢
    rw [Nat.add_assoc]
    exact blockTo_same H n hn (j + 1) (by rw [← Nat.add_assoc]; exact h)
termination_by n - j
decreasing_by omega
theorem numCh_same {s u : ByteArray} {i i' m : Nat} (H : SameAt s i u i' m) (hex : Bool) {j : Nat} (h : j < m) : numCh u i' hex (i' + j) = numCh s i hex (i + j) := by
  have h1 := same_bt H h
  unfold numCh
  rw [h1]
  by_cases h0 : j = 0
  · subst h0; simp
  · have h2 := same_bt H (j := j - 1) (by omega)
    rw [show i' + j - 1 = i' + (j - 1) by omega, show i + j - 1 = i + (j - 1) by omega, h2, show decide (i' < i' + j) = decide (i < i + j) by simp]
theorem numCh_blank {s : ByteArray} {a i : Nat} {hex : Bool} (h : blankB (bt s i) = true) : numCh s a hex i = false := by
  have := blankB_is h
  unfold numCh
  rcases this with h | h | h | h <;> rw [h] <;> simp [dval]
theorem numTo_same {s u : ByteArray} {i i' m : Nat} (H : SameAt s i u i' m) (hex : Bool) (n : Nat) (hn : n ≤ m) (j : Nat) (hj : j ≤ n) (h : numTo s i hex (i + j) = i + n) : numTo u i' hex (i' + j) = i' + n := by
  have H1 := H.1; have H2 := H.2.1
  by_cases hw : i + j < s.size ∧ numCh s i hex (i + j) = true
  · rw [numTo_yes hw.1 hw.2] at h
    have hle := (numTo_le s i hex (i + j + 1) (by omega)).1
    have hjn : j < n := by omega
    rw [numTo_yes (by omega) (by rw [numCh_same H hex (by omega)]; exact hw.2), Nat.add_assoc]
    exact numTo_same H hex n hn (j + 1) (by omega) (by rw [← Nat.add_assoc]; exact h)
  · rw [numTo_no hw] at h
    obtain rfl : j = n := by omega
    rw [numTo_no]
    intro g
    rcases Nat.lt_or_ge j m with hlt | hge
    · have g2 := g.2
      rw [numCh_same H hex hlt] at g2
      exact hw ⟨by omega, g2⟩
    · obtain rfl : j = m := by omega
      rcases H.2.2.2 with h4 | ⟨h4, h5⟩
      · omega
      · have g2 := g.2
        rw [numCh_blank h5] at g2
        cases g2
termination_by n - j
decreasing_by omega
/-- The byte behind the first one, in the second text: the same one, or a blank. -/
theorem same_next {s u : ByteArray} {i i' m : Nat} (H : SameAt s i u i' m) (h1 : 0 < m) (h : i' + 1 < u.size) : (1 < m ∧ bt u (i' + 1) = bt s (i + 1) ∧ i + 1 < s.size) ∨ blankB (bt u (i' + 1)) = true := by
  rcases Nat.lt_or_ge 1 m with g | g
  · exact Or.inl ⟨g, same_bt H g, by have := H.1; omega⟩
  · obtain rfl : m = 1 := by omega
    rcases H.2.2.2 with h4 | ⟨h4, h5⟩
    · omega
    · exact Or.inr h5
theorem numHex_same {s u : ByteArray} {i i' m : Nat} (H : SameAt s i u i' m) (h1 : 0 < m) (h2 : numHex s i = true → 2 ≤ m) : numHex u i' = numHex s i := by
  have H1 := H.1; have H2 := H.2.1
  have b0 := same_bt H h1
  rw [Nat.add_zero, Nat.add_zero] at b0
  cases hx : numHex s i with
  | true =>
    have hm := h2 hx
    have b1 := same_bt H (j := 1) (by omega)
    unfold numHex at hx ⊢
    rw [b0, b1]
    simp only [Bool.and_eq_true, decide_eq_true_eq] at hx ⊢
    exact ⟨by omega, hx.2⟩
  | false =>
    cases hy : numHex u i' with
    | false => rfl
    | true =>
      exfalso
      unfold numHex at hy
      simp only [Bool.and_eq_true, decide_eq_true_eq] at hy
      rcases same_next H h1 hy.1 with ⟨g1, g2, g3⟩ | g
      · have : numHex s i = true := by
          unfold numHex
          simp only [Bool.and_eq_true, decide_eq_true_eq]
          rw [← b0, ← g2]; exact ⟨g3, hy.2⟩
        rw [hx] at this; cases this
      · have := blankB_is g
        omega
theorem numBegins_sameB {s u : ByteArray} {i i' m : Nat} (H : SameAt s i u i' m) (h1 : 0 < m) (h : numBegins u i' = true) : numBegins s i = true := by
  have H1 := H.1; have H2 := H.2.1
  have b0 := same_bt H h1
  rw [Nat.add_zero, Nat.add_zero] at b0
  unfold numBegins at h ⊢
  simp only [Bool.and_eq_true, decide_eq_true_eq, Bool.or_eq_true] at h ⊢
  rw [b0] at h
  refine ⟨by omega, ?_⟩
  rcases h.2 with g | ⟨g, g2, g3⟩
  · exact Or.inl g
  · rcases same_next H h1 g2 with ⟨k1, k2, k3⟩ | k
    · exact Or.inr ⟨g, k3, by rw [← k2]; exact g3⟩
    · exfalso
      rcases blankB_is k with e | e | e | e <;> rw [e] at g3 <;> simp [dval] at g3
theorem numBegins_two {s : ByteArray} {i : Nat} (h : numBegins s i = true) : dval (bt s i) < 10 ∨ (bt s i = 46 ∧ i + 1 < s.size ∧ dval (bt s (i + 1)) < 10 ∧ i + 2 ≤ numEnd s i) := by
  unfold numBegins at h
  simp only [Bool.and_eq_true, decide_eq_true_eq, Bool.or_eq_true] at h
  rcases h.2 with g | ⟨g, g2, g3⟩
  · exact Or.inl g
  · exact Or.inr ⟨g, g2, g3, numEnd_two g2 (by unfold numCh; rw [g]; simp) (by unfold numCh; simp [g3])⟩
theorem numHex_two {s : ByteArray} {i : Nat} (h : numHex s i = true) : i + 2 ≤ numEnd s i := by
  have h0 := h
  unfold numHex at h
  simp only [Bool.and_eq_true, decide_eq_true_eq] at h
  obtain ⟨g1, g2, g3⟩ := h
  exact numEnd_two g1 (by unfold numCh; rw [g2]; simp [dval]) (by unfold numCh; rcases g3 with g3 | g3 <;> rw [g3] <;> simp)
theorem numScan_val {s : ByteArray} {i : Nat} (hb : numBegins s i = true) : numScan s (i : Nat) = if kindL (byts (s.extract i (numEnd s i))) ≠ 0 then ((kindL (byts (s.extract i (numEnd s i))) : Int), (numEnd s i : Int), 0) else (0, 0, 4) := by
  unfold numScan
  rw [Int.toNat_natCast, if_pos ⟨by omega, hb⟩]
theorem numScan_same {s u : ByteArray} {i i' m n : Nat} (H : SameAt s i u i' m) (hn : n ≤ m) (hb : numBegins s i = true) (hk : (numScan s i).1 ≠ 0) (he : (numScan s i).2.1 = (i + n : Nat)) :
    numBegins u i' = true ∧ numScan u i' = ((numScan s i).1, ((i' + n : Nat) : Int), 0) := by
  have H1 := H.1; have H2 := H.2.1
  have hg := numEnd_gt hb
  have hend : numEnd s i = i + n := by
    have := (numScan_piece hb hk).1
    omega
  have h1 : 0 < m := by omega
  have b0 := same_bt H h1
  rw [Nat.add_zero, Nat.add_zero] at b0
  have hx := numHex_same H h1 (fun g => by have := numHex_two g; omega)
  have hend' : numEnd u i' = i' + n := by
    have := numTo_same H (numHex s i) n hn 0 (by omega) hend
    unfold numEnd
    rw [hx]; exact this
  have hb' : numBegins u i' = true := by
    have h0 := numBegins_two hb
    unfold numBegins
    simp only [Bool.and_eq_true, decide_eq_true_eq, Bool.or_eq_true]
    rw [b0]
    refine ⟨by omega, ?_⟩
    rcases h0 with g | ⟨g, g2, g3, g4⟩
    · exact Or.inl g
    · exact Or.inr ⟨g, by omega, by rw [same_bt H (j := 1) (by omega)]; exact g3⟩
  refine ⟨hb', ?_⟩
  have hext := same_ext H (a := 0) (b := n) hn
  rw [Nat.add_zero, Nat.add_zero] at hext
  rw [numScan_val hb] at hk ⊢
  rw [numScan_val hb', hend', hext]
  rw [hend] at hk ⊢
  by_cases h : kindL (byts (s.extract i (i + n))) ≠ 0
  · simp only [if_pos h]
  · rw [if_neg h] at hk; exact absurd rfl hk
/-! ### signs -/
theorem signs_len3 : ∀ m ∈ signs3, m.length = 3 ∧ ∀ x ∈ m, blankB x = false := by decide +kernel
theorem signs_len2 : ∀ m ∈ signs2, m.length = 2 ∧ ∀ x ∈ m, blankB x = false := by decide +kernel
theorem signs_len1 : ∀ m ∈ signs1, m.length = 1 ∧ ∀ x ∈ m, blankB x = false := by decide +kernel
theorem sign_within {S : List (List Nat)} {r : Nat} (hS : ∀ m ∈ S, m.length = r ∧ ∀ x ∈ m, blankB x = false) (q z : List Nat) (hz : ∀ x ∈ z.head?, blankB x = true) (h : S.contains ((q ++ z).take r) = true) : r ≤ q.length := by
  rcases Nat.lt_or_ge q.length r with g | g
  · exfalso
    obtain ⟨h1, h2⟩ := hS _ (List.contains_iff_mem.1 h)
    cases z with
    | nil => rw [List.length_take, List.append_nil] at h1; omega
    | cons x z =>
      have hb := hz x rfl
      have hx : x ∈ (q ++ x :: z).take r := by
        rw [List.take_append]
        refine List.mem_append_right _ ?_
        obtain ⟨d, hd⟩ : ∃ d, r - q.length = d + 1 := ⟨r - q.length - 1, by omega⟩
        rw [hd, List.take_succ_cons]
        exact List.mem_cons_self
      have := h2 x hx
      rw [hb] at this; cases this
  · exact g
theorem take_same (q z z' : List Nat) (r : Nat) (h : r ≤ q.length) : (q ++ z).take r = (q ++ z').take r := by
  rw [List.take_append_of_le_length h, List.take_append_of_le_length h]
theorem signL_same (q z z' : List Nat) (hz : ∀ x ∈ z'.head?, blankB x = true) (h0 : 0 < signL (q ++ z)) (hn : signL (q ++ z) ≤ q.length) : signL (q ++ z') = signL (q ++ z) := by
  by_cases c3 : signs3.contains ((q ++ z).take 3) = true
  · have e : signL (q ++ z) = 3 := by unfold signL; rw [if_pos c3]
    rw [e]; rw [e] at hn
    unfold signL
    rw [take_same q z' z 3 hn, if_pos c3]
  · have d3 : ¬ signs3.contains ((q ++ z').take 3) = true := fun g => by
      have := sign_within signs_len3 q z' hz g
      rw [take_same q z' z 3 this] at g
      exact c3 g
    by_cases c2 : signs2.contains ((q ++ z).take 2) = true
    · have e : signL (q ++ z) = 2 := by unfold signL; rw [if_neg c3, if_pos c2]
      rw [e]; rw [e] at hn
      unfold signL
      rw [if_neg d3, take_same q z' z 2 hn, if_pos c2]
    · have d2 : ¬ signs2.contains ((q ++ z').take 2) = true := fun g => by
        have := sign_within signs_len2 q z' hz g
        rw [take_same q z' z 2 this] at g
        exact c2 g
      by_cases c1 : signs1.contains ((q ++ z).take 1) = true
      · have e : signL (q ++ z) = 1 := by unfold signL; rw [if_neg c3, if_neg c2, if_pos c1]
        rw [e]; rw [e] at hn
        unfold signL
        rw [if_neg d3, if_neg d2, take_same q z' z 1 hn, if_pos c1]
      · exfalso
        have e : signL (q ++ z) = 0 := by unfold signL; rw [if_neg c3, if_neg c2, if_neg c1]
        omega
theorem sign_same {s u : ByteArray} {i i' m : Nat} (H : SameAt s i u i' m) (h0 : 0 < signL (byts (s.extract i s.size))) (hn : signL (byts (s.extract i s.size)) ≤ m) : signL (byts (u.extract i' u.size)) = signL (byts (s.extract i s.size)) := by
  obtain ⟨h1, h2, h3, h4⟩ := H
  have e1 : byts (s.extract i s.size) = byts (s.extract i (i + m)) ++ byts (s.extract (i + m) s.size) := by
    rw [← byts_app, extract_all s i (i + m) s.size (by omega) h1]
  have e2 : byts (u.extract i' u.size) = byts (s.extract i (i + m)) ++ byts (u.extract (i' + m) u.size) := by
    rw [← h3, ← byts_app, extract_all u i' (i' + m) u.size (by omega) h2]
  have hl : (byts (s.extract i (i + m))).length = m := by rw [byts_length, piece_size (by omega) h1]; omega
  rw [e1] at h0 hn ⊢
  rw [e2]
  refine signL_same _ _ _ ?_ h0 (by omega)
  intro x hx
  rcases h4 with h4 | ⟨h4, h5⟩
  · have : byts (u.extract (i' + m) u.size) = [] := List.eq_nil_of_length_eq_zero (by rw [byts_length, ByteArray.size_extract]; omega)
    rw [this] at hx; cases hx
  · rw [List.head?_eq_getElem?, byts_get _ 0 (by rw [ByteArray.size_extract]; omega), piece_bt (j := 0) (by omega) (Nat.le_refl _), Nat.add_zero] at hx
    cases hx; exact h5
/-! ### marks -/
theorem raw_left (s y : ByteArray) (i : Nat) (p : Nat × List Int) (h : raw s i = some p) : raw (s ++ y) i = some p := by
  by_cases hi : i < s.size
  · have hi2 : i < (s ++ y).size := by rw [ByteArray.size_append]; omega
    by_cases hc : bt s i = 96
    · rw [raw_mark hi hc] at h
      rw [raw_mark hi2 (by rw [bt_left s y i hi]; exact hc)]; exact h
    · rw [raw_next hi hc] at h
      rw [raw_next hi2 (by rw [bt_left s y i hi]; exact hc), bt_left s y i hi]
      cases hr : raw s (i + 1) with
      | none => rw [hr] at h; cases h
      | some q => rw [raw_left s y (i + 1) q hr]; rw [hr] at h; exact h
  · rw [raw_end hi] at h; cases h
termination_by s.size - i
decreasing_by omega
theorem single_left (s y : ByteArray) (i : Nat) (p : Nat × List Int) (h : single s i = some p) : single (s ++ y) i = some p := by
  by_cases hi : i < s.size
  · have hi2 : i < (s ++ y).size := by rw [ByteArray.size_append]; omega
    by_cases hc : bt s i = 39
    · rw [single_mark hi hc] at h; cases h
    · cases hit : item s i 39 with
      | none => rw [single_none hi hc hit] at h; cases h
      | some q =>
        obtain ⟨n, l⟩ := q
        rw [single_some hi hc hit] at h
        rw [single_some hi2 (by rw [bt_left s y i hi]; exact hc) (item_left s y i 39 hi _ hit)]
        split at h
        · rename_i g
          rw [if_pos ⟨by rw [ByteArray.size_append]; omega, by rw [bt_left s y _ g.1]; exact g.2⟩]; exact h
        · cases h
  · rw [single_end hi] at h; cases h
theorem begunAt_put (x p y : ByteArray) (k : Int) (e : Nat) (v : ByteArray) (hp : 0 < p.size) (h : begunAt p 0 = (k, (e : Int), v, 0)) : begunAt (x ++ (p ++ y)) x.size = (k, ((x.size + e : Nat) : Int), v, 0) := by
  have b0 : bt (x ++ (p ++ y)) x.size = bt p 0 := by
    have := bt_right x (p ++ y) 0
    rw [Nat.add_zero] at this
    rw [this, bt_left p y 0 hp]
  unfold begunAt at h ⊢
  rw [b0]
  by_cases c1 : bt p 0 = 96
  · rw [if_pos c1] at h ⊢
    rw [raw_right x (p ++ y) 1]
    cases hr : raw p (0 + 1) with
    | none => rw [hr] at h; cases h
    | some q =>
      obtain ⟨e1, l1⟩ := q
      rw [hr] at h
      rw [raw_left p y 1 _ hr]
      simp only [Prod.mk.injEq, Option.map_some] at h ⊢
      obtain ⟨g1, g2, g3, _⟩ := h
      exact ⟨g1, by omega, g3, trivial⟩
  · rw [if_neg c1] at h ⊢
    by_cases c2 : bt p 0 = 34
    · rw [if_pos c2] at h ⊢
      rw [body_right x (p ++ y) 1]
      cases hr : body p (0 + 1) with
      | none => rw [hr] at h; cases h
      | some q =>
        obtain ⟨e1, l1⟩ := q
        rw [hr] at h
        rw [body_left p y 1 _ hr]
        simp only [Prod.mk.injEq, Option.map_some] at h ⊢
        obtain ⟨g1, g2, g3, _⟩ := h
        exact ⟨g1, by omega, g3, trivial⟩
    · rw [if_neg c2] at h ⊢
      rw [single_right x (p ++ y) 1]
      cases hr : single p (0 + 1) with
      | none => rw [hr] at h; cases h
      | some q =>
        obtain ⟨e1, l1⟩ := q
        rw [hr] at h
        rw [single_left p y 1 _ hr]
        simp only [Prod.mk.injEq, Option.map_some] at h ⊢
        obtain ⟨g1, g2, g3, _⟩ := h
        exact ⟨g1, by omega, g3, trivial⟩
theorem begun_same {s u : ByteArray} {i i' m n : Nat} (H : SameAt s i u i' m) (hn : n ≤ m) (hk : (begun s i).1 ≠ 0) (he : (begun s i).2.1 = (i + n : Nat)) :
    (begun u i').1 = (begun s i).1 ∧ (begun u i').2.1 = ((i' + n : Nat) : Int) ∧ (begun u i').2.2.2 = 0 := by
  obtain ⟨e, g1, g2, g3, gm, g4, g5⟩ := begun_piece hk
  obtain rfl : e = i + n := by omega
  have hl := begun_lim (s.extract i (i + n)) 0 (by show (begun (s.extract i (i + n)) 0).1 ≠ 0; rw [g4]; exact hk)
  have hz := piece_size (s := s) (i := i) (e := i + n) (by omega) g3
  have b0 := piece_bt (s := s) (i := i) (e := i + n) (j := 0) (by omega) g3
  have hext := same_ext H (a := 0) (b := n) hn
  rw [Nat.add_zero, Nat.add_zero] at hext
  have H2 := H.2.1
  have hat : begunAt (s.extract i (i + n)) 0 = ((begun s i).1, ((n : Nat) : Int), (begun (s.extract i (i + n)) 0).2.2.1, 0) := by
    have := begun_mark (s := s.extract i (i + n)) (at' := 0) (by omega) (by omega) (by rw [Int.toNat_zero, b0]; exact gm)
    rw [Int.toNat_zero] at this
    have e2 : (begun (s.extract i (i + n)) 0).2.1 = ((n : Nat) : Int) := by rw [g5]; omega
    rw [← this]
    exact Prod.ext g4 (Prod.ext e2 (Prod.ext rfl hl))
  have := begunAt_put (u.extract 0 i') (s.extract i (i + n)) (u.extract (i' + n) u.size) _ n _ (by omega) hat
  have hx : (u.extract 0 i').size = i' := by rw [ByteArray.size_extract]; omega
  rw [← hext, cut3 u (by omega) (by omega), hx] at this
  have bu := same_bt H (j := 0) (by omega)
  rw [Nat.add_zero, Nat.add_zero] at bu
  rw [Nat.add_zero] at b0
  have hbu : begun u i' = begunAt u i' := by
    have := begun_mark (s := u) (at' := i') (by omega) (by omega) (by rw [Int.toNat_natCast, bu]; exact gm)
    rwa [Int.toNat_natCast] at this
  rw [hbu, this]
  exact ⟨rfl, rfl, rfl⟩
end Go.Proofs.YtelfobnmiphdnaaGreatDoor
namespace Go.Proofs.YtelfobnmiphdnaaGreatDoor
set_option linter.all false
attribute [local irreducible] signL byts

theorem lineTo_to {u : ByteArray} (e : Nat) (he : e ≤ u.size) (stop : e = u.size ∨ bt u e = 10) (a : Nat) (ha : a ≤ e) (h : ∀ j, a ≤ j → j < e → bt u j ≠ 10) : lineTo u a = e := by
  rw [lineTo]
  by_cases hlt : a < e
  · rw [if_pos ⟨by omega, h a (Nat.le_refl _) hlt⟩]
    exact lineTo_to e he stop (a + 1) hlt (fun j h1 h2 => h j (by omega) h2)
  · obtain rfl : a = e := by omega
    rw [if_neg (fun g => by rcases stop with q | q <;> omega)]
termination_by e - a
decreasing_by omega
set_option maxHeartbeats 2000000
theorem lex_same {s u : ByteArray} {i i' m n : Nat} (H : SameAt s i u i' m) (hi : i < s.size) (hn : n ≤ m) (hk : (lex s i).1 ≠ 0) (h10 : (lex s i).1 ≠ 10) (h11 : (lex s i).1 = 11 → n = m ∧ (i' + m = u.size ∨ bt u (i' + m) = 10)) (he : (lex s i).2 = (i + n : Nat)) :
    lex u i' = ((lex s i).1, ((i' + n : Nat) : Int)) := by
  obtain ⟨e, he', h1, h2⟩ := lex_gt s i hi hk
  obtain rfl : e = i + n := by omega
  clear he'
  have H1 := H.1; have H2 := H.2.1
  have hm : 0 < m := by omega
  have hi' : i' < u.size := by omega
  have b0 := same_bt H hm
  rw [Nat.add_zero, Nat.add_zero] at b0
  have hasc : bt s i < 128 → rd u i' = rd s i := fun g => by
    rw [rd_ascii hi g, rd_ascii hi' (by rw [b0]; exact g), b0]
  have next : ∀ c, (i' + 1 < u.size ∧ bt u i' = 47 ∧ bt u (i' + 1) = c) → blankB c = false → i + 1 < s.size ∧ bt s i = 47 ∧ bt s (i + 1) = c := fun c g gb => by
    rcases same_next H hm g.1 with ⟨k1, k2, k3⟩ | k
    · exact ⟨k3, by rw [← b0]; exact g.2.1, by rw [← k2]; exact g.2.2⟩
    · rw [g.2.2, gb] at k; cases k
  by_cases c1 : (rd s i).1 = 65279
  · exfalso; apply h10
    unfold lex; rw [if_pos c1]
  by_cases c2 : blank (rd s i).1 = true
  · exfalso; apply h10
    unfold lex; rw [if_neg c1, if_pos c2]
  by_cases c3 : i + 1 < s.size ∧ bt s i = 47 ∧ bt s (i + 1) = 47
  · have hl : lex s i = (11, (lineTo s i : Int)) := by unfold lex; rw [if_neg c1, if_neg c2, if_pos c3]
    rw [hl] at he h11 ⊢
    obtain ⟨rfl, hst⟩ := h11 rfl
    simp only [] at he
    have hr := hasc (by omega)
    have h3 : 2 ≤ n := by
      have : lineTo s i = lineTo s (i + 1 + 1) := by rw [lineTo, if_pos ⟨hi, by omega⟩, lineTo, if_pos ⟨c3.1, by omega⟩]
      have := (lineTo_le s (i + 1 + 1) (by omega)).1
      omega
    have b1 := same_bt H (j := 1) (by omega)
    have hf := lineTo_to (u := u) (i' + n) H2 hst i' (by omega) (fun j g1 g2 => by
      have := same_bt H (j := j - i') (by omega)
      rw [show i' + (j - i') = j by omega] at this
      rw [this]
      exact (lineTo_in (s := s) i _ (by omega) (by omega)).2)
    unfold lex
    rw [hr, if_neg c1, if_neg c2, if_pos ⟨by omega, by rw [b0]; exact c3.2.1, by rw [b1]; exact c3.2.2⟩, hf]
  have n3 : ¬ (i' + 1 < u.size ∧ bt u i' = 47 ∧ bt u (i' + 1) = 47) := fun g => c3 (next 47 g (by decide))
  by_cases c4 : i + 1 < s.size ∧ bt s i = 47 ∧ bt s (i + 1) = 42
  · have hl : lex s i = match blockTo s (i + 2) with | some e => (12, (e : Int)) | none => (0, 0) := by
      unfold lex; rw [if_neg c1, if_neg c2, if_neg c3, if_pos c4]
      cases blockTo s (i + 2) <;> rfl
    rw [hl] at he hk ⊢
    cases hb : blockTo s (i + 2) with
    | none => rw [hb] at hk; exact absurd rfl hk
    | some e' =>
      rw [hb] at he
      simp only [] at he ⊢
      obtain rfl : e' = i + n := by omega
      have hle := blockTo_le s (i + 2) _ hb
      have hr := hasc (by omega)
      have hp := blockTo_same H n hn 2 hb
      have b1 := same_bt H (j := 1) (by omega)
      unfold lex
      rw [hr, if_neg c1, if_neg c2, if_neg n3, if_pos ⟨by omega, by rw [b0]; exact c4.2.1, by rw [b1]; exact c4.2.2⟩, hp]
  have n4 : ¬ (i' + 1 < u.size ∧ bt u i' = 47 ∧ bt u (i' + 1) = 42) := fun g => c4 (next 42 g (by decide))
  by_cases c5 : letter (rd s i).1 = true
  · have hl : lex s i = if word (s.extract i (wordTo s i)) then (2, (wordTo s i : Int)) else (1, (wordTo s i : Int)) := by unfold lex; rw [if_neg c1, if_neg c2, if_neg c3, if_neg c4, if_pos c5]
    have h0 : (rd s i).1 ≠ 0 := fun h0 => by rw [h0] at c5; have := letter_zero; simp_all
    have hp := rd_pos h0
    have hw : inWord s i = true := by unfold inWord; simp [hp.1, c5]
    have hstep : wordTo s i = wordTo s (i + (rd s i).2) := by rw [wordTo, dif_pos ⟨hi, hw⟩]
    have hge := (wordTo_le s (i + (rd s i).2) hp.2).1
    have hew : wordTo s i = i + n := by
      rw [hl] at he
      split at he <;> (simp only [] at he; omega)
    have hr := same_rd H (j := 0) hm (by rw [Nat.add_zero]; exact hp.1) (by rw [Nat.add_zero]; omega)
    rw [Nat.add_zero, Nat.add_zero] at hr
    have hwp := wordTo_same H n hn 0 (Nat.zero_le _) hew
    rw [Nat.add_zero] at hwp
    have hext := same_ext H (a := 0) (b := n) hn
    rw [Nat.add_zero, Nat.add_zero] at hext
    rw [hl, hew]
    unfold lex
    rw [hr, if_neg c1, if_neg c2, if_neg n3, if_neg n4, if_pos c5, hwp, hext]
    split <;> rfl
  by_cases c6 : bt s i = 59
  · have hl : lex s i = (9, ((i + 1 : Nat) : Int)) := by unfold lex; rw [if_neg c1, if_neg c2, if_neg c3, if_neg c4, if_neg c5, if_pos c6]
    rw [hl] at he ⊢
    simp only [] at he
    obtain rfl : n = 1 := by omega
    have hr := hasc (by omega)
    unfold lex
    rw [hr, if_neg c1, if_neg c2, if_neg n3, if_neg n4, if_neg c5, if_pos (by rw [b0]; exact c6)]
  have n6 : ¬ bt u i' = 59 := by rw [b0]; exact c6
  by_cases c7 : (numScan s i).2.2 ≠ 15
  · have hb : numBegins s i = true := by
      unfold numScan at c7
      rw [Int.toNat_natCast] at c7
      by_cases g : (0 : Int) ≤ (i : Int) ∧ numBegins s i = true
      · exact g.2
      · rw [if_neg g] at c7; exact absurd rfl c7
    have hl : lex s i = ((numScan s i).1, (numScan s i).2.1) := by unfold lex; rw [if_neg c1, if_neg c2, if_neg c3, if_neg c4, if_neg c5, if_neg c6, if_pos c7]
    rw [hl] at he hk ⊢
    simp only [] at he hk ⊢
    obtain ⟨_, g2⟩ := numScan_same H hn hb hk he
    have hr := hasc (by
      rcases numBegins_two hb with g | ⟨g, _⟩
      · exact dval_low g
      · omega)
    unfold lex
    rw [hr, if_neg c1, if_neg c2, if_neg n3, if_neg n4, if_neg c5, if_neg n6, if_pos (by rw [g2]; simp), g2]
  have hnb : numBegins s i = false := by
    cases hb : numBegins s i with
    | false => rfl
    | true =>
      exfalso; apply c7
      unfold numScan
      rw [Int.toNat_natCast, if_pos ⟨by omega, hb⟩]
      split <;> simp
  have n7 : ¬ (numScan u (i' : Nat)).2.2 ≠ 15 := by
    unfold numScan
    rw [Int.toNat_natCast, if_neg (fun g => by have := numBegins_sameB H hm g.2; rw [hnb] at this; cases this)]
    simp
  by_cases c8 : (begun s i).2.2.2 ≠ 15
  · have hl : lex s i = ((begun s i).1, (begun s i).2.1) := by unfold lex; rw [if_neg c1, if_neg c2, if_neg c3, if_neg c4, if_neg c5, if_neg c6, if_neg c7, if_pos c8]
    rw [hl] at he hk ⊢
    simp only [] at he hk ⊢
    have hq : begun s i = ((begun s i).1, (begun s i).2.1, (begun s i).2.2.1, 0) := by rw [← begun_lim s i hk]
    have gm := (begun_ok hq).2.2
    rw [Int.toNat_natCast] at gm
    obtain ⟨g1, g2, g3⟩ := begun_same H hn hk he
    have hr := hasc (by unfold isMark at gm; simp at gm; omega)
    unfold lex
    rw [hr, if_neg c1, if_neg c2, if_neg n3, if_neg n4, if_neg c5, if_neg n6, if_neg n7, if_pos (by rw [g3]; decide), g1, g2]
  have hnm : isMark (bt s i) = false := by
    cases hm : isMark (bt s i) with
    | false => rfl
    | true =>
      exfalso; apply c8
      rw [begun_mark (by omega) (by omega) (by rw [Int.toNat_natCast]; exact hm), Int.toNat_natCast]
      unfold begunAt
      split
      · split <;> simp
      · split
        · split <;> simp
        · split <;> simp
  have n8 : ¬ (begun u (i' : Nat)).2.2.2 ≠ 15 := by
    rw [begun_no (i := i') (by rw [b0]; exact hnm)]; simp
  by_cases c9 : 0 < signL (byts (s.extract i s.size))
  · have hl : lex s i = (8, ((i + signL (byts (s.extract i s.size)) : Nat) : Int)) := by unfold lex; rw [if_neg c1, if_neg c2, if_neg c3, if_neg c4, if_neg c5, if_neg c6, if_neg c7, if_neg c8, if_pos c9]
    rw [hl] at he ⊢
    simp only [] at he
    have hsn : signL (byts (s.extract i s.size)) = n := by omega
    have hs := sign_same H c9 (by omega)
    have hr := hasc (sign_ascii hi c9)
    unfold lex
    rw [hr, if_neg c1, if_neg c2, if_neg n3, if_neg n4, if_neg c5, if_neg n6, if_neg n7, if_neg n8, if_pos (by rw [hs]; exact c9), hs, hsn]
  · exfalso; apply hk
    unfold lex; rw [if_neg c1, if_neg c2, if_neg c3, if_neg c4, if_neg c5, if_neg c6, if_neg c7, if_neg c8, if_neg c9]
end Go.Proofs.YtelfobnmiphdnaaGreatDoor
