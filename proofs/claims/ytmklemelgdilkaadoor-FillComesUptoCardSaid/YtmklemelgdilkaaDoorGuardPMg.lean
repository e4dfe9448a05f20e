/- Layer 15 in plain Lean: brackets where a part is loose. -/
import Derived.Test.YtmklemelgdilkaaDoorRulePMg
namespace Go.Proofs.YtmklemelgdilkaaDoor
set_option linter.all false

def wL1 : List (List UInt8) := [[124, 124]]
def wL2 : List (List UInt8) := [[38, 38]]
def wL3 : List (List UInt8) := [[61, 61], [33, 61], [60], [60, 61], [62], [62, 61]]
def wL4 : List (List UInt8) := [[43], [45], [124], [94]]
def wL5 : List (List UInt8) := [[42], [47], [37], [60, 60], [62, 62], [38], [38, 94]]
def lvW (w : ByteArray) : Nat := if w.toList ∈ wL1 then 1 else if w.toList ∈ wL2 then 2 else if w.toList ∈ wL3 then 3 else if w.toList ∈ wL4 then 4 else if w.toList ∈ wL5 then 5 else 1
def levelZ (p : Prt) : Nat := if p.1 = 36 ∨ p.1 = 35 then 6 else if p.1 = 37 then lvW p.2.2 else 7
def looseZ (p : Prt) (nth : Nat) (kid : Prt) : Bool :=
 if p.1 = 37 then (decide (nth = 0) && decide (levelZ kid < levelZ p)) || (decide (nth = 1) && decide (levelZ kid ≤ levelZ p))
 else if p.1 = 35 ∨ p.1 = 36 then decide (levelZ kid < 6)
 else if 29 ≤ p.1 ∧ p.1 ≤ 34 then decide (nth = 0) && decide (levelZ kid < 7)
 else if p.1 = 61 then decide (nth = 2) && decide (levelZ kid < 7)
 else false
def leastZ (p : Prt) (nth : Nat) : Nat :=
 if p.1 = 37 then (if nth = 0 then levelZ p else if nth = 1 then levelZ p + 1 else 0)
 else if p.1 = 35 ∨ p.1 = 36 then 6
 else if 29 ≤ p.1 ∧ p.1 ≤ 34 then (if nth = 0 then 7 else 0)
 else if p.1 = 61 then (if nth = 2 then 7 else 0)
 else 0
theorem least_loose (p : Prt) (nth : Nat) (kid : Prt) : decide (levelZ kid < leastZ p nth) = looseZ p nth kid := by
 unfold leastZ looseZ
 by_cases h1 : p.1 = 37
 ·rw [if_pos h1, if_pos h1]
  by_cases h2 : nth = 0
  ·subst h2; simp
  ·rw [if_neg h2]
   by_cases h3 : nth = 1
   ·subst h3; simp; omega
   ·rw [if_neg h3]; simp [h2, h3]
 ·rw [if_neg h1, if_neg h1]
  by_cases h2 : p.1 = 35 ∨ p.1 = 36
  ·rw [if_pos h2, if_pos h2]
  ·rw [if_neg h2, if_neg h2]
   by_cases h3 : 29 ≤ p.1 ∧ p.1 ≤ 34
   ·rw [if_pos h3, if_pos h3]
    by_cases h4 : nth = 0
    ·simp [h4]
    ·simp [h4]
   ·rw [if_neg h3, if_neg h3]
    by_cases h4 : p.1 = 61
    ·rw [if_pos h4, if_pos h4]
     by_cases h5 : nth = 2
     ·simp [h5]
     ·simp [h5]
    ·rw [if_neg h4, if_neg h4]; simp
abbrev PN := Prt × Int
def paren : PN := ((28, 1, ByteArray.empty), -1)
def brk (p : Prt) (nth : Nat) (kid : Prt) : List PN := if looseZ p nth kid then [paren] else []
section
variable (l : List Prt) (from' : List Int)
def pnAt (i : Nat) : PN := (l.getD i (0, 0, ByteArray.empty), from'.getD i 0)
def ptAt (i : Nat) : Prt := l.getD i (0, 0, ByteArray.empty)
mutual
def gPart : Nat → Nat → List PN
 | 0, _ => []
 | n + 1, i => pnAt l from' i :: gKids n (ptAt l i) 0 (i + 1) (endB l i)
def gKids : Nat → Prt → Nat → Nat → Nat → List PN
 | 0, _, _, _, _ => []
 | n + 1, p, nth, k, stop => if k = stop then [] else brk p nth (ptAt l k) ++ (gPart n k ++ gKids n p (nth + 1) (endB l k) stop)
end
def looseAt (j : Nat) : Bool := match upN l j with
 | .ofNat p => looseZ (ptAt l p) ((kidsB l p).idxOf j) (ptAt l j)
 | .negSucc _ => false
def gOne (j : Nat) : List PN := (if looseAt l j then [paren] else []) ++ [pnAt l from' j]
def gSeg (a b : Nat) : List PN := (List.range' a (b - a)).flatMap (gOne l from')
theorem gSeg_add {a b c : Nat} (h1 : a ≤ b) (h2 : b ≤ c) : gSeg l from' a c = gSeg l from' a b ++ gSeg l from' b c := by
 unfold gSeg
 rw [← List.flatMap_append, show c - a = (b - a) + (c - b) by omega]
 congr 1
 have := List.range'_append (s := a) (m := b - a) (n := c - b) (step := 1)
 rw [Nat.one_mul, show a + (b - a) = b by omega] at this
 exact this.symm
theorem gSeg_one (a : Nat) : gSeg l from' a (a + 1) = gOne l from' a := by
 unfold gSeg
 rw [show a + 1 - a = 1 by omega]
 simp [List.range'_succ]
theorem gSeg_nil (a : Nat) : gSeg l from' a a = [] := by unfold gSeg; rw [Nat.sub_self]; rfl
variable {l}
theorem kids_list {us : List Nat} (hl : rowsB l = some us) {i : Nat} (hi : i < l.length) : ∃ q, (l[i]).2.1 = ((q : Nat) : Int) ∧ advT l q (i + 1) (endB l i) = some (endB l i) ∧ (kidsB l i).length = q ∧ ∀ n, n < q → (kidsB l i)[n]? = some (kidAt l n (i + 1)) := by
 obtain ⟨ts, q, h1, h2, h3, h4, h5⟩ := kids_facts hl hi
 obtain ⟨q', g1, g2⟩ := adv_kids hl hi
 obtain rfl : q = q' := by omega
 refine ⟨q, h2, g2, by rw [h5, List.length_take, starts_length]; omega, fun n hn => ?_⟩
 have hk : ∀ m n, n + m ≤ q → kidAt l m (i + 1 + (ts.take n).sum) = i + 1 + (ts.take (n + m)).sum := by
  intro m
  induction m with
  | zero => intro n _; rfl
  | succ m ih =>
   intro n hn
   obtain ⟨_, k2, _⟩ := kid_step hl h1 h3 (show n < q by omega)
   rw [kidAt, k2, ih (n + 1) (by omega)]
   congr 3; omega
 have := hk n 0 (by omega)
 simp only [List.take_zero, List.sum_nil, Nat.add_zero, Nat.zero_add] at this
 rw [this, h5, List.getElem?_take, if_pos hn]
 have hg := starts_get ts (i + 1) n (by omega)
 have hl2 := starts_length ts (i + 1)
 rw [List.getD_eq_getElem?_getD, List.getElem?_eq_getElem (by omega)] at hg
 rw [List.getElem?_eq_getElem (by omega)]
 simpa using hg
theorem kid_mono {us : List Nat} (hl : rowsB l = some us) {stop k : Nat} (hs : stop ≤ l.length) {n m b c : Nat} (hb : advT l n k stop = some b) (hc : advT l m k stop = some c) (h : n < m) : b < c := by
 rw [show m = n + (m - n) by omega, adv_add, hb, Option.bind_some] at hc
 have := adv_le hl _ _ _ _ hs hc
 omega
theorem loose_kid {us : List Nat} (hl : rowsB l = some us) {i : Nat} (hi : i < l.length) {n k : Nat} (hk : advT l n (i + 1) (endB l i) = some k) (hlt : k < endB l i) : looseAt l k = looseZ (ptAt l i) n (ptAt l k) := by
 obtain ⟨q, h1, h2, h3, h4⟩ := kids_list hl hi
 have hg := endB_gt hl hi
 have hle := adv_le hl _ _ _ _ hg.2 hk
 obtain ⟨r1, r2, r3⟩ := adv_rest hl hg.2 h2 hk
 have hnq : n < q := by
  rcases Nat.lt_or_ge n q with c | c
  ·exact c
  ·exfalso
   have : q = n := by omega
   subst this
   rw [h2] at hk; cases hk; omega
 have hup : upN l k = (i : Int) := by
  apply up_of hl hi (by omega) hlt
  intro j hj1 hj2
  -- j lies within an earlier kid
  have key : ∀ m b, advT l m (i + 1) (endB l i) = some b → ∀ j, i < j → j < b → endB l j ≤ b := by
   intro m
   induction m with
   | zero => intro b hb j h1 h2; rw [advT] at hb; cases hb; omega
   | succ m ih =>
    intro b hb j g1 g2
    rw [adv_add l m 1] at hb
    cases hm : advT l m (i + 1) (endB l i) with
    | none => rw [hm] at hb; cases hb
    | some c =>
     rw [hm, Option.bind_some, advT] at hb
     split at hb
     ·rename_i hc
      rw [advT] at hb
      cases hb
      rcases Nat.lt_trichotomy j c with c1 | c1 | c1
      ·have h1 := ih c hm j g1 c1
       have := (endB_gt hl (show c < l.length by omega)).1
       omega
      ·subst c1; exact Nat.le_refl _
      ·
       have hc1 : c < l.length := by omega
       have hp := piece_well hl hc1
       have hgc := endB_gt hl hc1
       have hS := piece_sits hl (show c ≤ endB l c by omega) (wellB_iff.1 hp.1)
       have hx : j - c < (piece l c (endB l c)).length := by rw [hp.2]; omega
       have e1 := hS.end_ hx
       have e2 := endB_gt (wellB_iff.1 hp.1) hx
       rw [hp.2] at e2
       rw [show j - c + c = j by omega] at e1
       omega
     ·cases hb
  exact key n k hk j hj1 hj2
 unfold looseAt
 rw [hup]
 show looseZ (ptAt l i) ((kidsB l i).idxOf k) (ptAt l k) = _
 have e : (kidsB l i)[n]? = some k := by rw [h4 n hnq, adv_kid hk]
 congr 1
 rw [List.idxOf, List.findIdx_eq (by rw [h3]; exact hnq)]
 obtain ⟨hn', he⟩ := List.getElem?_eq_some_iff.1 e
 refine ⟨by simpa using he, fun j hj => ?_⟩
 have hjq : j < q := by omega
 have ej := h4 j hjq
 obtain ⟨_, he2⟩ := List.getElem?_eq_some_iff.1 ej
 rw [he2]
 simp only [beq_eq_false_iff_ne]
 intro e3
 have hadv : ∃ b, advT l j (i + 1) (endB l i) = some b := by
  have := h2
  rw [show q = j + (q - j) by omega, adv_add] at this
  cases hj' : advT l j (i + 1) (endB l i) with
  | none => rw [hj'] at this; cases this
  | some b => exact ⟨b, rfl⟩
 obtain ⟨b, hb⟩ := hadv
 have := kid_mono hl hg.2 hb hk hj
 rw [adv_kid hb] at e3
 omega
variable (l)
theorem g_seg {us : List Nat} (hl : rowsB l = some us) : ∀ n, (∀ i, i < l.length → 2 * (endB l i - i) ≤ n → gPart l from' n i = pnAt l from' i :: gSeg l from' (i + 1) (endB l i)) ∧
  (∀ i k nth, i < l.length → advT l nth (i + 1) (endB l i) = some k → k ≤ endB l i → 2 * (endB l i - k) + 1 ≤ n → gKids l from' n (ptAt l i) nth k (endB l i) = gSeg l from' k (endB l i))
 | 0 => ⟨(fun i hi h => by have := (endB_gt hl hi).1; omega), (fun _ _ _ _ _ _ h => by omega)⟩
 | n + 1 => by
  obtain ⟨h1, h2⟩ := g_seg hl n
  constructor
  ·intro i hi h
   have hg := endB_gt hl hi
   rw [gPart, h2 i (i + 1) 0 hi rfl (by omega) (by omega)]
  ·intro i k nth hi hk hle h
   have hg := endB_gt hl hi
   rw [gKids]
   split
   ·rename_i e; subst e; rw [gSeg_nil]
   ·rename_i e
    have hkl : k < endB l i := by omega
    have hgk := endB_gt hl (show k < l.length by omega)
    obtain ⟨q, _, hq⟩ := adv_kids hl hi
    obtain ⟨_, _, r3⟩ := adv_rest hl hg.2 hq hk
    obtain ⟨_, J, _, hJ⟩ := adv_next r3 e
    have hle2 := adv_le hl _ _ _ _ hg.2 hJ
    have hk2 : advT l (nth + 1) (i + 1) (endB l i) = some (endB l k) := by rw [adv_add, hk, Option.bind_some, advT, if_pos hkl, advT]
    rw [h1 k (by omega) (by omega), h2 i (endB l k) (nth + 1) hi hk2 (by omega) (by omega)]
    rw [gSeg_add l from' (show k ≤ k + 1 by omega) (show k + 1 ≤ endB l i by omega), gSeg_one, gSeg_add l from' (show k + 1 ≤ endB l k by omega) (show endB l k ≤ endB l i by omega)]
    unfold gOne brk
    rw [loose_kid hl hi hk hkl]
    simp
def guardZ : List PN := gSeg l from' 0 l.length
theorem guard_part (hl : wellB l = true) : gPart l from' (2 * l.length) 0 = guardZ l from' := by
 have h0 := well_zero hl
 have hw := well_rows hl
 rw [(g_seg l from' hw _).1 0 h0.1 (by rw [h0.2]; omega), h0.2]
 unfold guardZ
 rw [gSeg_add l from' (show 0 ≤ 1 by omega) (show 1 ≤ l.length by omega), gSeg_one]
 unfold gOne looseAt
 have : upN l 0 = Int.negSucc 0 := rfl
 rw [this]
 rfl
end
section
variable (l : List Prt) (from' : List Int)
theorem pnAt_fst {i : Nat} (hi : i < l.length) : (pnAt l from' i).1 = l[i] := by unfold pnAt; simp [List.getD_eq_getElem?_getD, hi]
theorem rows_paren {b : List Prt} {t : Nat} (h : rowsB b = some [t]) : rowsB ((28, 1, ByteArray.empty) :: b) = some [1 + t] := by
 have := rowsB_cons (p := (28, 1, ByteArray.empty)) h (by simp) (by simp)
 simpa using this
theorem g_rows {us : List Nat} (hl : rowsB l = some us) : ∀ n, (∀ i, i < l.length → 2 * (endB l i - i) ≤ n → ∃ t, rowsB ((gPart l from' n i).map (·.1)) = some [t]) ∧
  (∀ p nth k stop J, stop ≤ l.length → advT l J k stop = some stop → 2 * (stop - k) + 1 ≤ n → ∃ ts, rowsB ((gKids l from' n p nth k stop).map (·.1)) = some ts ∧ ts.length = J)
 | 0 => ⟨(fun i hi h => by have := (endB_gt hl hi).1; omega), (fun _ _ _ _ _ _ _ h => by omega)⟩
 | n + 1 => by
  obtain ⟨h1, h2⟩ := g_rows hl n
  constructor
  ·intro i hi h
   have hg := endB_gt hl hi
   obtain ⟨q, k1, k2⟩ := adv_kids hl hi
   obtain ⟨ts, g1, g2⟩ := h2 (ptAt l i) 0 (i + 1) (endB l i) q hg.2 k2 (by omega)
   rw [gPart, List.map_cons, pnAt_fst l from' hi, rowsB_cons g1 (by omega) (by omega)]
   refine ⟨1 + (ts.take (l[i]).2.1.toNat).sum, ?_⟩
   rw [show (l[i]).2.1.toNat = ts.length by omega, List.drop_length]
  ·intro p nth k stop J hst hJ h
   rw [gKids]
   split
   ·rename_i e
    subst e
    cases J with
    | zero => exact ⟨[], rfl, rfl⟩
    | succ J => rw [advT, if_neg (by omega)] at hJ; cases hJ
   ·rename_i e
    obtain ⟨hlt, J', rfl, hJ'⟩ := adv_next hJ e
    have hgk := endB_gt hl (show k < l.length by omega)
    have hle := adv_le hl _ _ _ _ hst hJ'
    obtain ⟨t, ht⟩ := h1 k (by omega) (by omega)
    obtain ⟨ts, g1, g2⟩ := h2 p (nth + 1) (endB l k) stop J' hst hJ' (by omega)
    rw [List.map_append, List.map_append, ← List.append_assoc]
    have h3 : ∃ x, rowsB ((brk p nth (ptAt l k)).map (·.1) ++ (gPart l from' n k).map (·.1)) = some [x] := by
     unfold brk
     split
     ·exact ⟨_, rows_paren ht⟩
     ·exact ⟨t, ht⟩
    obtain ⟨x, hx⟩ := h3
    exact ⟨_, rowsB_app hx g1, by simp [g2]⟩
theorem guard_well (hl : wellB l = true) : wellB ((guardZ l from').map (·.1)) = true := by
 have h0 := well_zero hl
 obtain ⟨t, ht⟩ := (g_rows l from' (well_rows hl) (2 * l.length)).1 0 h0.1 (by rw [h0.2]; omega)
 rw [guard_part l from' hl] at ht
 have := (rowsB_sum ht).1
 simp only [List.sum_cons, List.sum_nil, Nat.add_zero] at this
 rw [wellB_iff, ht, this]
theorem guard_mem {x : PN} (h : x ∈ guardZ l from') : x = paren ∨ ∃ i, i < l.length ∧ x = pnAt l from' i := by
 unfold guardZ gSeg at h
 rw [List.mem_flatMap] at h
 obtain ⟨i, hi, hx⟩ := h
 rw [List.mem_range'_1] at hi
 unfold gOne at hx
 rw [List.mem_append, List.mem_singleton] at hx
 rcases hx with hx | hx
 ·split at hx
  ·simp at hx; exact Or.inl hx
  ·cases hx
 ·exact Or.inr ⟨i, by omega, hx⟩
end
end Go.Proofs.YtmklemelgdilkaaDoor
