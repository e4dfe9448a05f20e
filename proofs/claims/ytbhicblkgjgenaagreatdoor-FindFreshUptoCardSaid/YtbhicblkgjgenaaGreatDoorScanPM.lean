/- Layers 5 and 7 in plain Lean: where a number ends, the lexeme at a place, all lexemes of a text; no program in sight. -/
import Derived.Test.YtbhicblkgjgenaaGreatDoorNumPM
import Derived.Test.YtbhicblkgjgenaaGreatDoorQuotedPM
import Derived.Lib.SlTrimSet
namespace Go.Proofs.YtbhicblkgjgenaaGreatDoor
set_option linter.all false

/-- The bytes of a text. -/
def byts (s : ByteArray) : List Nat := s.data.toList.map fun b => b.toNat
theorem byts_length (s : ByteArray) : (byts s).length = s.size := by unfold byts; rw [List.length_map, ← size_data]
theorem byts_get (s : ByteArray) (i : Nat) (h : i < s.size) : (byts s)[i]? = some (bt s i) := by
  unfold byts bt
  rw [List.getElem?_map, get!_list, List.getD_eq_getElem?_getD]
  have hl : i < s.data.toList.length := by rw [← size_data]; exact h
  rw [List.getElem?_eq_getElem hl]
  rfl
/-! ### numbers in a text -/
def numCh (s : ByteArray) (at' : Nat) (hex : Bool) (i : Nat) : Bool :=
  decide (bt s i = 95) || decide (bt s i = 46) || decide (dval (bt s i) < 10) || decide (97 ≤ bt s i ∧ bt s i ≤ 122) || decide (65 ≤ bt s i ∧ bt s i ≤ 90) ||
    (decide (at' < i) && decide (bt s i = 43 ∨ bt s i = 45) && (if hex then decide (bt s (i - 1) = 112 ∨ bt s (i - 1) = 80) else decide (bt s (i - 1) = 101 ∨ bt s (i - 1) = 69)))
def numTo (s : ByteArray) (at' : Nat) (hex : Bool) (i : Nat) : Nat := if i < s.size ∧ numCh s at' hex i = true then numTo s at' hex (i + 1) else i
termination_by s.size - i
decreasing_by omega
def numHex (s : ByteArray) (i : Nat) : Bool := decide (i + 1 < s.size) && (decide (bt s i = 48) && decide (bt s (i + 1) = 120 ∨ bt s (i + 1) = 88))
def numBegins (s : ByteArray) (i : Nat) : Bool := decide (i < s.size) && (decide (dval (bt s i) < 10) || (decide (bt s i = 46) && (decide (i + 1 < s.size) && decide (dval (bt s (i + 1)) < 10))))
def numEnd (s : ByteArray) (i : Nat) : Nat := numTo s i (numHex s i) i
/-- The number that begins at a place: kind, end, error. -/
@[irreducible] def numScan (s : ByteArray) (at' : Int) : Int × Int × Int :=
  if 0 ≤ at' ∧ numBegins s at'.toNat = true then
    if kindL (byts (s.extract at'.toNat (numEnd s at'.toNat))) ≠ 0 then (kindL (byts (s.extract at'.toNat (numEnd s at'.toNat))), numEnd s at'.toNat, 0) else (0, 0, 4)
  else (0, 0, 15)
theorem numTo_yes {s : ByteArray} {a i : Nat} {hex : Bool} (h : i < s.size) (hc : numCh s a hex i = true) : numTo s a hex i = numTo s a hex (i + 1) := by rw [numTo, if_pos ⟨h, hc⟩]
theorem numTo_no {s : ByteArray} {a i : Nat} {hex : Bool} (h : ¬ (i < s.size ∧ numCh s a hex i = true)) : numTo s a hex i = i := by rw [numTo, if_neg h]
theorem numTo_le (s : ByteArray) (a : Nat) (hex : Bool) (i : Nat) (h : i ≤ s.size) : i ≤ numTo s a hex i ∧ numTo s a hex i ≤ s.size := by
  by_cases hc : i < s.size ∧ numCh s a hex i = true
  · rw [numTo_yes hc.1 hc.2]
    have := numTo_le s a hex (i + 1) (by omega)
    omega
  · rw [numTo_no hc]; omega
termination_by s.size - i
decreasing_by omega
theorem numEnd_gt {s : ByteArray} {i : Nat} (h : numBegins s i = true) : i < numEnd s i ∧ numEnd s i ≤ s.size := by
  unfold numBegins at h
  simp only [Bool.and_eq_true, decide_eq_true_eq, Bool.or_eq_true] at h
  unfold numEnd
  rw [numTo_yes h.1]
  · have := numTo_le s i (numHex s i) (i + 1) (by omega)
    omega
  · unfold numCh
    rcases h.2 with h2 | ⟨h2, _⟩ <;> simp [h2]
/-! ### the lexeme at a place -/
def blankB (c : Nat) : Bool := c == 32 || c == 9 || c == 10 || c == 13
def blankTo (s : ByteArray) (i : Nat) : Nat := if i < s.size ∧ blankB (bt s i) = true then blankTo s (i + 1) else i
termination_by s.size - i
decreasing_by omega
def inWord (s : ByteArray) (i : Nat) : Bool := decide ((rd s i).2 ≠ 0) && (letter (rd s i).1 || digit (rd s i).1)
def wordTo (s : ByteArray) (i : Nat) : Nat := if h : i < s.size ∧ inWord s i = true then wordTo s (i + (rd s i).2) else i
termination_by s.size - i
decreasing_by unfold inWord at h; simp at h; omega
/-- The first byte 10 from a place on, or the text's end. -/
def lineTo (s : ByteArray) (i : Nat) : Nat := if i < s.size ∧ bt s i ≠ 10 then lineTo s (i + 1) else i
termination_by s.size - i
decreasing_by omega
/-- Behind the first '*/' from a place on. -/
def blockTo (s : ByteArray) (i : Nat) : Option Nat :=
  if i + 1 < s.size then (if bt s i = 42 ∧ bt s (i + 1) = 47 then some (i + 2) else blockTo s (i + 1)) else none
termination_by s.size - i
decreasing_by omega
def signs3 : List (List Nat) := [[60, 60, 61], [62, 62, 61], [38, 94, 61], [46, 46, 46]]
def signs2 : List (List Nat) := [[60, 60], [62, 62], [38, 94], [43, 61], [45, 61], [42, 61], [47, 61], [37, 61], [38, 61], [124, 61], [94, 61], [38, 38], [124, 124], [60, 45], [43, 43], [45, 45], [61, 61], [33, 61], [60, 61], [62, 61], [58, 61]]
def signs1 : List (List Nat) := [[43], [45], [42], [47], [37], [38], [124], [94], [60], [62], [61], [33], [126], [40], [41], [91], [93], [123], [125], [44], [46], [58]]
/-- The length of the longest sign at a text's beginning. -/
def signL (l : List Nat) : Nat :=
  if signs3.contains (l.take 3) then 3 else if signs2.contains (l.take 2) then 2 else if signs1.contains (l.take 1) then 1 else 0
/-- The lexeme at a place: its kind and its end; 0: there is none. -/
@[irreducible] def lex (s : ByteArray) (i : Nat) : Int × Int :=
  if (rd s i).1 = 65279 then (10, (i + (rd s i).2 : Nat))
  else if blank (rd s i).1 then (10, blankTo s i)
  else if i + 1 < s.size ∧ bt s i = 47 ∧ bt s (i + 1) = 47 then (11, lineTo s i)
  else if i + 1 < s.size ∧ bt s i = 47 ∧ bt s (i + 1) = 42 then (match blockTo s (i + 2) with | some e => (12, (e : Int)) | none => (0, 0))
  else if letter (rd s i).1 then (if word (s.extract i (wordTo s i)) then (2, wordTo s i) else (1, wordTo s i))
  else if bt s i = 59 then (9, (i + 1 : Nat))
  else if (numScan s i).2.2 ≠ 15 then ((numScan s i).1, (numScan s i).2.1)
  else if (begun s i).2.2.2 ≠ 15 then ((begun s i).1, (begun s i).2.1)
  else if 0 < signL (byts (s.extract i s.size)) then (8, (i + signL (byts (s.extract i s.size)) : Nat)) else (0, 0)
/-! ### the first character that may not be -/
def badHere (s : ByteArray) (i : Nat) : Bool := decide ((rd s i).2 = 0) || decide ((rd s i).1 = 0) || (decide ((rd s i).1 = 65279) && decide (0 < i))
def cleanZ (s : ByteArray) (i : Nat) : Int := if h : i < s.size then (if hb : badHere s i = true then (i : Int) else cleanZ s (i + (rd s i).2)) else -1
termination_by s.size - i
decreasing_by unfold badHere at hb; simp at hb; omega
@[irreducible] def clean (s : ByteArray) : Int := cleanZ s 0
end Go.Proofs.YtbhicblkgjgenaaGreatDoor
namespace Go.Proofs.YtbhicblkgjgenaaGreatDoor
set_option linter.all false

theorem drop_len {s : ByteArray} {i : Nat} {l : List UInt8} (h : s.data.toList.drop i = l) : s.size - i = l.length := by
  have := congrArg List.length h
  rw [List.length_drop, ← size_data] at this
  exact this
theorem drop_head {s : ByteArray} {i : Nat} {b : UInt8} {t : List UInt8} (h : s.data.toList.drop i = b :: t) : i < s.size ∧ bt s i = b.toNat ∧ s.data.toList.drop (i + 1) = t := by
  have hlen := drop_len h
  refine ⟨by simp at hlen; omega, ?_, ?_⟩
  · unfold bt
    rw [get!_list]
    have h1 : (s.data.toList.drop i)[0]? = some b := by rw [h]; rfl
    rw [List.getElem?_drop, Nat.add_zero] at h1
    rw [List.getD_eq_getElem?_getD, h1]
    rfl
  · have : (s.data.toList.drop i).drop 1 = t := by rw [h]; rfl
    rwa [List.drop_drop] at this
theorem extract_tail (s : ByteArray) (i : Nat) : (s.extract i s.size).data.toList = s.data.toList.drop i := by
  rw [extract_data, List.take_of_length_le]
  rw [List.length_drop, ← size_data]; omega
theorem blankTo_le (s : ByteArray) (i : Nat) (h : i ≤ s.size) : i ≤ blankTo s i ∧ blankTo s i ≤ s.size := by
  by_cases hc : i < s.size ∧ blankB (bt s i) = true
  · rw [blankTo, if_pos hc]
    have := blankTo_le s (i + 1) (by omega)
    omega
  · rw [blankTo, if_neg hc]; omega
termination_by s.size - i
decreasing_by omega
theorem lineTo_le (s : ByteArray) (i : Nat) (h : i ≤ s.size) : i ≤ lineTo s i ∧ lineTo s i ≤ s.size := by
  by_cases hc : i < s.size ∧ bt s i ≠ 10
  · rw [lineTo, if_pos hc]
    have := lineTo_le s (i + 1) (by omega)
    omega
  · rw [lineTo, if_neg hc]; omega
termination_by s.size - i
decreasing_by omega
theorem blockTo_le (s : ByteArray) (i e : Nat) (h : blockTo s i = some e) : i + 2 ≤ e ∧ e ≤ s.size := by
  rw [blockTo] at h
  split at h
  · split at h
    · cases h; omega
    · have := blockTo_le s (i + 1) e h
      omega
  · cases h
termination_by s.size - i
decreasing_by omega
theorem wordTo_le (s : ByteArray) (i : Nat) (h : i ≤ s.size) : i ≤ wordTo s i ∧ wordTo s i ≤ s.size := by
  by_cases hc : i < s.size ∧ inWord s i = true
  · rw [wordTo, dif_pos hc]
    have hw := rd_width s i
    have h0 : (rd s i).2 ≠ 0 := by have := hc.2; unfold inWord at this; simp at this; exact this.1
    have := wordTo_le s (i + (rd s i).2) (by omega)
    omega
  · rw [wordTo, dif_neg hc]; omega
termination_by s.size - i
decreasing_by omega
def blanks : List UInt8 := [32, 9, 13, 10]
theorem blanks_has (b : UInt8) : blanks.contains b = blankB b.toNat := by
  have h : ∀ n : Nat, n < 256 → (blanks.contains (UInt8.ofNat n)) = blankB n := by decide +kernel
  have := h b.toNat b.toNat_lt
  rw [UInt8.ofNat_toNat] at this
  exact this
theorem blank_trim_l (s : ByteArray) : ∀ (l : List UInt8) (i : Nat), s.data.toList.drop i = l → i ≤ s.size → (Lib.trimLeftS l blanks).length + blankTo s i = s.size
  | [], i, h, hi => by
    have hlen := drop_len h
    rw [blankTo, if_neg (by simp at hlen; omega)]
    simp [Lib.trimLeftS] at hlen ⊢
    omega
  | b :: t, i, h, hi => by
    obtain ⟨h1, h2, h3⟩ := drop_head h
    have hlen := drop_len h
    have ih := blank_trim_l s t (i + 1) h3 (by omega)
    rw [blankTo, h2, ← blanks_has]
    by_cases hb : blanks.contains b = true
    · rw [if_pos ⟨h1, hb⟩]
      unfold Lib.trimLeftS at ih ⊢
      rw [List.dropWhile_cons_of_pos hb]
      exact ih
    · rw [if_neg (fun hh => hb hh.2)]
      unfold Lib.trimLeftS
      rw [List.dropWhile_cons_of_neg hb]
      omega
theorem blank_trim (s : ByteArray) (i : Nat) (hi : i ≤ s.size) : (Lib.trimLeftS (s.extract i s.size).data.toList blanks).length + blankTo s i = s.size := by
  rw [extract_tail]
  exact blank_trim_l s _ i rfl hi
theorem line_index_l (s : ByteArray) : ∀ (l : List UInt8) (i : Nat), s.data.toList.drop i = l → i ≤ s.size → lineTo s i = if Lib.indexByte l 10 < 0 then s.size else i + (Lib.indexByte l 10).toNat
  | [], i, h, hi => by
    have hlen := drop_len h
    rw [lineTo, if_neg (by simp at hlen; omega), if_pos (by decide)]
    simp at hlen; omega
  | b :: t, i, h, hi => by
    obtain ⟨h1, h2, h3⟩ := drop_head h
    have ih := line_index_l s t (i + 1) h3 (by omega)
    rw [lineTo, h2]
    have hge := Lib.indexByte_ge t 10
    by_cases hb : b = 10
    · subst hb
      have h0 : Lib.indexByte (10 :: t) 10 = 0 := by unfold Lib.indexByte; rw [if_pos (by decide)]
      rw [if_neg (fun hh => hh.2 rfl), h0]; rfl
    · have hn : b.toNat ≠ 10 := fun e => hb (UInt8.toNat_inj.1 (by rw [e]; rfl))
      have h0 : Lib.indexByte (b :: t) 10 = if Lib.indexByte t 10 == -1 then -1 else Lib.indexByte t 10 + 1 := by
        rw [Lib.indexByte, if_neg (by simpa using hb)]
      rw [if_pos ⟨h1, hn⟩, ih, h0]
      by_cases hm : Lib.indexByte t 10 = -1
      · rw [hm]; rfl
      · have e2 : (if Lib.indexByte t 10 == -1 then (-1 : Int) else Lib.indexByte t 10 + 1) = Lib.indexByte t 10 + 1 := by rw [if_neg (by simpa using hm)]
        rw [e2, if_neg (by omega), if_neg (by omega)]
        omega
theorem line_index (s : ByteArray) (i : Nat) (hi : i ≤ s.size) : lineTo s i = if Lib.indexByte (s.extract i s.size).data.toList 10 < 0 then s.size else i + (Lib.indexByte (s.extract i s.size).data.toList 10).toNat := by
  rw [extract_tail]
  exact line_index_l s _ i rfl hi
theorem block_index_l (s : ByteArray) : ∀ (l : List UInt8) (i : Nat), s.data.toList.drop i = l → i ≤ s.size → blockTo s i = if Lib.index l [42, 47] < 0 then none else some (i + (Lib.index l [42, 47]).toNat + 2)
  | [], i, h, hi => by
    have hlen := drop_len h
    rw [blockTo, if_neg (by simp at hlen; omega), if_pos (by decide)]
  | b :: t, i, h, hi => by
    obtain ⟨h1, h2, h3⟩ := drop_head h
    have hlen := drop_len h
    have ih := block_index_l s t (i + 1) h3 (by omega)
    have hge := Lib.index_ge t [42, 47]
    rw [blockTo, h2]
    have key : (b.toNat = 42 ∧ i + 1 < s.size ∧ bt s (i + 1) = 47) ↔ ([42, 47] : List UInt8).isPrefixOf (b :: t) = true := by
      cases t with
      | nil =>
        simp at hlen
        constructor
        · rintro ⟨_, h, _⟩; omega
        · intro h; simp [List.isPrefixOf] at h
      | cons d t =>
        obtain ⟨g1, g2, _⟩ := drop_head h3
        rw [g2]
        simp only [List.isPrefixOf, Bool.and_true, Bool.and_eq_true, beq_iff_eq]
        constructor
        · rintro ⟨e1, _, e2⟩
          exact ⟨(UInt8.toNat_inj.1 (by rw [e1]; rfl)), (UInt8.toNat_inj.1 (by rw [e2]; rfl))⟩
        · rintro ⟨rfl, rfl⟩; exact ⟨rfl, g1, rfl⟩
    rw [Lib.index]
    by_cases hp : ([42, 47] : List UInt8).isPrefixOf (b :: t) = true
    · obtain ⟨k1, k2, k3⟩ := key.2 hp
      rw [if_pos k2, if_pos ⟨k1, k3⟩, if_pos hp]; rfl
    · rw [if_neg hp]
      have e : (if i + 1 < s.size then if b.toNat = 42 ∧ bt s (i + 1) = 47 then some (i + 2) else blockTo s (i + 1) else none) = blockTo s (i + 1) := by
        by_cases hl : i + 1 < s.size
        · rw [if_pos hl, if_neg (fun hh => hp (key.1 ⟨hh.1, hl, hh.2⟩))]
        · rw [if_neg hl, blockTo, if_neg (by omega)]
      rw [e, ih]
      by_cases hm : Lib.index t [42, 47] = -1
      · rw [hm]; rfl
      · have e2 : (if Lib.index t [42, 47] == -1 then (-1 : Int) else Lib.index t [42, 47] + 1) = Lib.index t [42, 47] + 1 := by rw [if_neg (by simpa using hm)]
        rw [e2, if_neg (by omega), if_neg (by omega)]
        congr 1; omega
theorem block_index (s : ByteArray) (i : Nat) (hi : i ≤ s.size) : blockTo s i = if Lib.index (s.extract i s.size).data.toList [42, 47] < 0 then none else some (i + (Lib.index (s.extract i s.size).data.toList [42, 47]).toNat + 2) := by
  rw [extract_tail]
  exact block_index_l s _ i rfl hi
theorem prefix2 (s : ByteArray) (i : Nat) (c d : UInt8) : Lib.hasPrefix (s.extract i s.size).data.toList [c, d] = decide (i + 1 < s.size ∧ bt s i = c.toNat ∧ bt s (i + 1) = d.toNat) := by
  rw [extract_tail, Bool.eq_iff_iff, decide_eq_true_eq]
  unfold Lib.hasPrefix
  cases h : s.data.toList.drop i with
  | nil =>
    have := drop_len h
    simp at this
    simp [List.isPrefixOf]; omega
  | cons b t =>
    obtain ⟨h1, h2, h3⟩ := drop_head h
    cases ht : t with
    | nil =>
      rw [ht] at h3
      have := drop_len h3
      simp at this
      simp [List.isPrefixOf]; omega
    | cons e t' =>
      rw [ht] at h3
      obtain ⟨g1, g2, _⟩ := drop_head h3
      rw [h2, g2]
      simp only [List.isPrefixOf, Bool.and_true, Bool.and_eq_true, beq_iff_eq]
      constructor
      · rintro ⟨rfl, rfl⟩; exact ⟨g1, rfl, rfl⟩
      · rintro ⟨_, e1, e2⟩; exact ⟨(UInt8.toNat_inj.1 e1).symm, (UInt8.toNat_inj.1 e2).symm⟩
end Go.Proofs.YtbhicblkgjgenaaGreatDoor
namespace Go.Proofs.YtbhicblkgjgenaaGreatDoor
set_option linter.all false

/-- A character's first byte is no byte that goes on; its other bytes are. -/
theorem rd_lead (s : ByteArray) (i : Nat) (h0 : (rd s i).2 ≠ 0) : bt s i / 64 ≠ 2 ∧ ∀ k, 1 ≤ k → k < (rd s i).2 → bt s (i + k) / 64 = 2 := by
  have hi : i < s.size := by
    rcases Nat.lt_or_ge i s.size with h | h
    · exact h
    · rw [rd_out h] at h0; exact absurd rfl h0
  rcases rd_cases s i hi with ⟨hc, _⟩ | ⟨h1, h4, hn, hmay, hform, _⟩
  · exact absurd (by rw [hc]) h0
  · generalize hq : rd s i = q at *
    obtain ⟨r, n⟩ := q
    simp only [] at *
    have hb : ∀ k, k < n → bt s (i + k) = bt (form r) k := fun k hk => by
      unfold bt
      rw [hform, get!_extract s i (i + n) k (by omega) hn]
    have hsz : (formZ r).length = n := by rw [← form_size, hform, ByteArray.size_extract]; omega
    have hm := (may_iff r).1 hmay
    have g : ∀ k x, (formZ r)[k]? = some x → 0 ≤ x → x < 256 → (bt (form r) k : Int) = x := fun k x a b c => bt_form r k x a b c
    have b0 := hb 0 (by omega)
    rw [Nat.add_zero] at b0
    unfold formZ at hsz g
    rw [if_neg (by simp [hmay])] at hsz
    simp only [if_neg (show ¬ may r = false by simp [hmay])] at g
    by_cases c1 : (r : Int) < 128
    · rw [if_pos c1] at hsz; simp only [if_pos c1] at g
      simp at hsz
      have e0 := g 0 _ rfl (by omega) (by omega)
      exact ⟨by omega, fun k a b => by omega⟩
    · rw [if_neg c1] at hsz; simp only [if_neg c1] at g
      by_cases c2 : (r : Int) < 2048
      · rw [if_pos c2] at hsz; simp only [if_pos c2] at g
        simp at hsz
        have e0 := g 0 _ rfl (by omega) (by omega)
        have e1 := g 1 _ rfl (by omega) (by omega)
        have b1 := hb 1 (by omega)
        refine ⟨by omega, fun k a b => ?_⟩
        obtain rfl : k = 1 := by omega
        omega
      · rw [if_neg c2] at hsz; simp only [if_neg c2] at g
        by_cases c3 : (r : Int) < 65536
        · rw [if_pos c3] at hsz; simp only [if_pos c3] at g
          simp at hsz
          have e0 := g 0 _ rfl (by omega) (by omega)
          have e1 := g 1 _ rfl (by omega) (by omega)
          have e2 := g 2 _ rfl (by omega) (by omega)
          have b1 := hb 1 (by omega)
          have b2 := hb 2 (by omega)
          refine ⟨by omega, fun k a b => ?_⟩
          obtain rfl | rfl : k = 1 ∨ k = 2 := by omega
          · omega
          · omega
        · rw [if_neg c3] at hsz; simp only [if_neg c3] at g
          simp at hsz
          have e0 := g 0 _ rfl (by omega) (by omega)
          have e1 := g 1 _ rfl (by omega) (by omega)
          have e2 := g 2 _ rfl (by omega) (by omega)
          have e3 := g 3 _ rfl (by omega) (by omega)
          have b1 := hb 1 (by omega)
          have b2 := hb 2 (by omega)
          have b3 := hb 3 (by omega)
          refine ⟨by omega, fun k a b => ?_⟩
          obtain rfl | rfl | rfl : k = 1 ∨ k = 2 ∨ k = 3 := by omega
          · omega
          · omega
          · omega
theorem clean_bad {s : ByteArray} {i : Nat} (h : i < s.size) (hb : badHere s i = true) : cleanZ s i = i := by rw [cleanZ, dif_pos h, dif_pos hb]
theorem clean_step {s : ByteArray} {i : Nat} (h : i < s.size) (hb : badHere s i = false) : cleanZ s i = cleanZ s (i + (rd s i).2) := by rw [cleanZ, dif_pos h, dif_neg (by simp [hb])]
theorem clean_end {s : ByteArray} {i : Nat} (h : ¬ i < s.size) : cleanZ s i = -1 := by rw [cleanZ, dif_neg h]
theorem good_width {s : ByteArray} {i : Nat} (hb : badHere s i = false) : (rd s i).2 ≠ 0 := by
  intro h; unfold badHere at hb; simp [h] at hb
/-- Reading the text up to its first bad place. -/
def upTo (s : ByteArray) : Nat := match (scan s 0).2 with | some i => i | none => s.size
theorem upTo_le (s : ByteArray) : upTo s ≤ s.size := by
  unfold upTo
  cases h : (scan s 0).2 with
  | none => exact Nat.le_refl _
  | some j => have := (scan_bad_at s 0 j h).2; simp only []; omega
theorem bad_upTo (s : ByteArray) : bad s = if upTo s < s.size then (upTo s : Int) else -1 := by
  unfold bad badZ upTo
  cases h : (scan s 0).2 with
  | none => simp
  | some j => have := (scan_bad_at s 0 j h).2; simp only []; rw [if_pos this]
theorem upTo_step {s : ByteArray} {i : Nat} (hs : (scan s i).2 = (scan s 0).2) (hi : i < upTo s) : (rd s i).2 ≠ 0 ∧ i + (rd s i).2 ≤ upTo s ∧ (scan s (i + (rd s i).2)).2 = (scan s 0).2 := by
  have hle := upTo_le s
  have h0 : (rd s i).2 ≠ 0 := fun h0 => by
    rw [scan_bad (by omega) h0] at hs
    unfold upTo at hi
    rw [← hs] at hi
    simp at hi
  have e := congrArg Prod.snd (scan_step (s := s) (i := i) (by omega) h0)
  simp only [] at e
  refine ⟨h0, ?_, by rw [← e, hs]⟩
  have hw := rd_width s i
  have e2 : (scan s (i + (rd s i).2)).2 = (scan s 0).2 := by rw [← e, hs]
  unfold upTo
  cases h : (scan s 0).2 with
  | none => simp only []; omega
  | some j =>
    rw [h] at e2
    exact (scan_bad_at s _ j e2).1
theorem upTo_end {s : ByteArray} (hs : (scan s (upTo s)).2 = (scan s 0).2) (hi : upTo s < s.size) : (rd s (upTo s)).2 = 0 := by
  cases Nat.eq_zero_or_pos (rd s (upTo s)).2 with
  | inl h => exact h
  | inr h =>
    exfalso
    have h0 : (rd s (upTo s)).2 ≠ 0 := by omega
    have e := congrArg Prod.snd (scan_step (s := s) (i := upTo s) hi h0)
    simp only [] at e
    cases h2 : (scan s 0).2 with
    | none => unfold upTo at hi; rw [h2] at hi; simp at hi
    | some j =>
      have hj : upTo s = j := by unfold upTo; rw [h2]
      have := scan_bad_at s (upTo s + (rd s (upTo s)).2) j (by rw [← e, hs, h2])
      omega
/-- What the program reads of the text cut at its first bad place. -/
theorem upTo_rd {s : ByteArray} {i : Nat} (h0 : (rd s i).2 ≠ 0) (h : i + (rd s i).2 ≤ upTo s) : rd (s.extract 0 (upTo s)) i = rd s i := by
  have hle := upTo_le s
  have e := cut_at s (upTo s) hle
  have hz : (s.extract 0 (upTo s)).size = upTo s := by rw [ByteArray.size_extract]; omega
  have := rd_back (s.extract 0 (upTo s)) (s.extract (upTo s) s.size) i
  rw [e, hz] at this
  exact this h0 h
/-- Does a character begin at a place, by going there? -/
def goes (s : ByteArray) (i at' : Nat) : Nat := if h : i < at' ∧ (rd s i).2 ≠ 0 then goes s (i + (rd s i).2) at' else i
termination_by at' - i
decreasing_by omega
theorem goes_lead (s : ByteArray) (at' : Nat) (hat : at' < s.size) (i : Nat) (hi : i ≤ at') (hc : cleanZ s i < 0) : (goes s i at' == at') = decide (bt s at' / 64 ≠ 2) := by
  have hb : badHere s i = false := by
    cases h : badHere s i
    · rfl
    · rw [clean_bad (by omega) h] at hc; omega
  have h0 := good_width hb
  obtain ⟨l1, l2⟩ := rd_lead s i h0
  rw [goes]
  by_cases hlt : i < at'
  · rw [dif_pos ⟨hlt, h0⟩]
    by_cases hle : i + (rd s i).2 ≤ at'
    · rw [clean_step (by omega) hb] at hc
      exact goes_lead s at' hat _ hle hc
    · have := l2 (at' - i) (by omega) (by omega)
      rw [show i + (at' - i) = at' by omega] at this
      rw [goes, dif_neg (by omega)]
      have e : (i + (rd s i).2 == at') = false := by rw [beq_eq_false_iff_ne]; omega
      rw [e, this]; rfl
  · obtain rfl : i = at' := by omega
    rw [dif_neg (by omega)]
    simp [l1]
termination_by at' - i
decreasing_by omega
/-! ### all lexemes -/
theorem begun_lim (s : ByteArray) (i : Nat) (h : (begun s i).1 ≠ 0) : (begun s i).2.2.2 = 0 := by
  by_cases he : (begun s i).2.2.2 = 0
  · exact he
  · exfalso
    unfold begun at h he
    split at h
    · exact h rfl
    · rename_i h1
      rw [if_neg h1] at he
      split at h
      · rename_i h2
        rw [if_pos h2] at he
        unfold begunAt at h he
        split at h
        · rename_i h3
          rw [if_pos h3] at he
          cases hr : raw s ((i : Int).toNat + 1) with
          | none => rw [hr] at h; exact h rfl
          | some p => rw [hr] at he; exact he rfl
        · rename_i h3
          rw [if_neg h3] at he
          split at h
          · rename_i h4
            rw [if_pos h4] at he
            cases hr : body s ((i : Int).toNat + 1) with
            | none => rw [hr] at h; exact h rfl
            | some p => rw [hr] at he; exact he rfl
          · rename_i h4
            rw [if_neg h4] at he
            cases hr : single s ((i : Int).toNat + 1) with
            | none => rw [hr] at h; exact h rfl
            | some p => rw [hr] at he; exact he rfl
      · exact h rfl
end Go.Proofs.YtbhicblkgjgenaaGreatDoor
