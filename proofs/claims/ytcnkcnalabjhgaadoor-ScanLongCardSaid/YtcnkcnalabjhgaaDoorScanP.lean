/- Layers 5 and 7 in plain Lean: where a number ends, the lexeme at a place, all lexemes of a text; no program in sight. -/
import Derived.Test.YtcnkcnalabjhgaaDoorNumP3
import Derived.Test.YtcnkcnalabjhgaaDoorQuotedP
namespace Go.Proofs.YtcnkcnalabjhgaaDoor
set_option linter.all false

/-- The bytes of a text. -/
def byts (s : ByteArray) : List Nat := s.data.toList.map fun b => b.toNat
theorem byts_length (s : ByteArray) : (byts s).length = s.size := by unfold byts; rw [List.length_map, ← size_data]
theorem byts_get (s : ByteArray) (i : Nat) (h : i < s.size) : (byts s)[i]? = some (bt s i) := by
  unfold byts bt
  rw [List.getElem?_map, get!_list, List.getD_eq_getElem?_getD]
  have hl : i < s.data.toList.length := by rw [← size_data]; exact h
  rw [List.getElem?_eq_getElem hl]
  rfl
/-! ### numbers in a text -/
def numCh (s : ByteArray) (at' : Nat) (hex : Bool) (i : Nat) : Bool :=
  decide (bt s i = 95) || decide (bt s i = 46) || decide (dval (bt s i) < 10) || decide (97 ≤ bt s i ∧ bt s i ≤ 122) || decide (65 ≤ bt s i ∧ bt s i ≤ 90) ||
    (decide (at' < i) && decide (bt s i = 43 ∨ bt s i = 45) && (if hex then decide (bt s (i - 1) = 112 ∨ bt s (i - 1) = 80) else decide (bt s (i - 1) = 101 ∨ bt s (i - 1) = 69)))
def numTo (s : ByteArray) (at' : Nat) (hex : Bool) (i : Nat) : Nat := if i < s.size ∧ numCh s at' hex i = true then numTo s at' hex (i + 1) else i
termination_by s.size - i
decreasing_by omega
def numHex (s : ByteArray) (i : Nat) : Bool := decide (i + 1 < s.size) && (decide (bt s i = 48) && decide (bt s (i + 1) = 120 ∨ bt s (i + 1) = 88))
def numBegins (s : ByteArray) (i : Nat) : Bool := decide (i < s.size) && (decide (dval (bt s i) < 10) || (decide (bt s i = 46) && (decide (i + 1 < s.size) && decide (dval (bt s (i + 1)) < 10))))
def numEnd (s : ByteArray) (i : Nat) : Nat := numTo s i (numHex s i) i
/-- The number that begins at a place: kind, end, error. -/
@[irreducible] def numScan (s : ByteArray) (at' : Int) : Int × Int × Int :=
  if 0 ≤ at' ∧ numBegins s at'.toNat = true then
    if kindL (byts (s.extract at'.toNat (numEnd s at'.toNat))) ≠ 0 then (kindL (byts (s.extract at'.toNat (numEnd s at'.toNat))), numEnd s at'.toNat, 0) else (0, 0, 4)
  else (0, 0, 15)
theorem numTo_yes {s : ByteArray} {a i : Nat} {hex : Bool} (h : i < s.size) (hc : numCh s a hex i = true) : numTo s a hex i = numTo s a hex (i + 1) := by rw [numTo, if_pos ⟨h, hc⟩]
theorem numTo_no {s : ByteArray} {a i : Nat} {hex : Bool} (h : ¬ (i < s.size ∧ numCh s a hex i = true)) : numTo s a hex i = i := by rw [numTo, if_neg h]
theorem numTo_le (s : ByteArray) (a : Nat) (hex : Bool) (i : Nat) (h : i ≤ s.size) : i ≤ numTo s a hex i ∧ numTo s a hex i ≤ s.size := by
  by_cases hc : i < s.size ∧ numCh s a hex i = true
  · rw [numTo_yes hc.1 hc.2]
    have := numTo_le s a hex (i + 1) (by omega)
    omega
  · rw [numTo_no hc]; omega
termination_by s.size - i
decreasing_by omega
theorem numEnd_gt {s : ByteArray} {i : Nat} (h : numBegins s i = true) : i < numEnd s i ∧ numEnd s i ≤ s.size := by
  unfold numBegins at h
  simp only [Bool.and_eq_true, decide_eq_true_eq, Bool.or_eq_true] at h
  unfold numEnd
  rw [numTo_yes h.1]
  · have := numTo_le s i (numHex s i) (i + 1) (by omega)
    omega
  · unfold numCh
    rcases h.2 with h2 | ⟨h2, _⟩ <;> simp [h2]
/-! ### the lexeme at a place -/
def blankB (c : Nat) : Bool := c == 32 || c == 9 || c == 10 || c == 13
def blankTo (s : ByteArray) (i : Nat) : Nat := if i < s.size ∧ blankB (bt s i) = true then blankTo s (i + 1) else i
termination_by s.size - i
decreasing_by omega
def inWord (s : ByteArray) (i : Nat) : Bool := decide ((rd s i).2 ≠ 0) && (letter (rd s i).1 || digit (rd s i).1)
def wordTo (s : ByteArray) (i : Nat) : Nat := if h : i < s.size ∧ inWord s i = true then wordTo s (i + (rd s i).2) else i
termination_by s.size - i
decreasing_by unfold inWord at h; simp at h; omega
/-- The first byte 10 from a place on, or the text's end. -/
def lineTo (s : ByteArray) (i : Nat) : Nat := if i < s.size ∧ bt s i ≠ 10 then lineTo s (i + 1) else i
termination_by s.size - i
decreasing_by omega
/-- Behind the first '*/' from a place on. -/
def blockTo (s : ByteArray) (i : Nat) : Option Nat :=
  if i + 1 < s.size then (if bt s i = 42 ∧ bt s (i + 1) = 47 then some (i + 2) else blockTo s (i + 1)) else none
termination_by s.size - i
decreasing_by omega
def signs3 : List (List Nat) := [[60, 60, 61], [62, 62, 61], [38, 94, 61], [46, 46, 46]]
def signs2 : List (List Nat) := [[60, 60], [62, 62], [38, 94], [43, 61], [45, 61], [42, 61], [47, 61], [37, 61], [38, 61], [124, 61], [94, 61], [38, 38], [124, 124], [60, 45], [43, 43], [45, 45], [61, 61], [33, 61], [60, 61], [62, 61], [58, 61]]
def signs1 : List (List Nat) := [[43], [45], [42], [47], [37], [38], [124], [94], [60], [62], [61], [33], [126], [40], [41], [91], [93], [123], [125], [44], [46], [58]]
/-- The length of the longest sign at a text's beginning. -/
def signL (l : List Nat) : Nat :=
  if signs3.contains (l.take 3) then 3 else if signs2.contains (l.take 2) then 2 else if signs1.contains (l.take 1) then 1 else 0
/-- The lexeme at a place: its kind and its end; 0: there is none. -/
@[irreducible] def lex (s : ByteArray) (i : Nat) : Int × Int :=
  if (rd s i).1 = 65279 then (10, (i + (rd s i).2 : Nat))
  else if blank (rd s i).1 then (10, blankTo s i)
  else if i + 1 < s.size ∧ bt s i = 47 ∧ bt s (i + 1) = 47 then (11, lineTo s i)
  else if i + 1 < s.size ∧ bt s i = 47 ∧ bt s (i + 1) = 42 then (match blockTo s (i + 2) with | some e => (12, (e : Int)) | none => (0, 0))
  else if letter (rd s i).1 then (if word (s.extract i (wordTo s i)) then (2, wordTo s i) else (1, wordTo s i))
  else if bt s i = 59 then (9, (i + 1 : Nat))
  else if (numScan s i).2.2 ≠ 15 then ((numScan s i).1, (numScan s i).2.1)
  else if (begun s i).2.2.2 ≠ 15 then ((begun s i).1, (begun s i).2.1)
  else if 0 < signL (byts (s.extract i s.size)) then (8, (i + signL (byts (s.extract i s.size)) : Nat)) else (0, 0)
/-! ### the first character that may not be -/
def badHere (s : ByteArray) (i : Nat) : Bool := decide ((rd s i).2 = 0) || decide ((rd s i).1 = 0) || (decide ((rd s i).1 = 65279) && decide (0 < i))
def cleanZ (s : ByteArray) (i : Nat) : Int := if h : i < s.size then (if hb : badHere s i = true then (i : Int) else cleanZ s (i + (rd s i).2)) else -1
termination_by s.size - i
decreasing_by unfold badHere at hb; simp at hb; omega
@[irreducible] def clean (s : ByteArray) : Int := cleanZ s 0
end Go.Proofs.YtcnkcnalabjhgaaDoor
