/- Layer 15 in plain Lean: brackets where a part is loose. -/
import Derived.Test.YtmklemelgdilkaaDoorCheckDMh
import Derived.Test.YtmklemelgdilkaaDoorTermMh
import Derived.Test.YtmklemelgdilkaaDoorCheckBMh
import Derived.Test.YtmklemelgdilkaaDoorTermSameMh
namespace Go.Proofs.YtmklemelgdilkaaDoor
set_option linter.all false

def wL1 : List (List UInt8) := [[124, 124]]
def wL2 : List (List UInt8) := [[38, 38]]
def wL3 : List (List UInt8) := [[61, 61], [33, 61], [60], [60, 61], [62], [62, 61]]
def wL4 : List (List UInt8) := [[43], [45], [124], [94]]
def wL5 : List (List UInt8) := [[42], [47], [37], [60, 60], [62, 62], [38], [38, 94]]
def lvW (w : ByteArray) : Nat := if w.toList ∈ wL1 then 1 else if w.toList ∈ wL2 then 2 else if w.toList ∈ wL3 then 3 else if w.toList ∈ wL4 then 4 else if w.toList ∈ wL5 then 5 else 1
def levelZ (p : Prt) : Nat := if p.1 = 36 ∨ p.1 = 35 then 6 else if p.1 = 37 then lvW p.2.2 else 7
def looseZ (p : Prt) (nth : Nat) (kid : Prt) : Bool :=
 if p.1 = 37 then (decide (nth = 0) && decide (levelZ kid < levelZ p)) || (decide (nth = 1) && decide (levelZ kid ≤ levelZ p))
 else if p.1 = 35 ∨ p.1 = 36 then decide (levelZ kid < 6)
 else if 29 ≤ p.1 ∧ p.1 ≤ 34 then decide (nth = 0) && decide (levelZ kid < 7)
 else if p.1 = 61 then decide (nth = 2) && decide (levelZ kid < 7)
 else false
def leastZ (p : Prt) (nth : Nat) : Nat :=
 if p.1 = 37 then (if nth = 0 then levelZ p else if nth = 1 then levelZ p + 1 else 0)
 else if p.1 = 35 ∨ p.1 = 36 then 6
 else if 29 ≤ p.1 ∧ p.1 ≤ 34 then (if nth = 0 then 7 else 0)
 else if p.1 = 61 then (if nth = 2 then 7 else 0)
 else 0
theorem least_loose (p : Prt) (nth : Nat) (kid : Prt) : decide (levelZ kid < leastZ p nth) = looseZ p nth kid := by
 unfold leastZ looseZ
 by_cases h1 : p.1 = 37
 ·rw [if_pos h1, if_pos h1]
  by_cases h2 : nth = 0
  ·subst h2; simp
  ·rw [if_neg h2]
   by_cases h3 : nth = 1
   ·subst h3; simp; omega
   ·rw [if_neg h3]; simp [h2, h3]
 ·rw [if_neg h1, if_neg h1]
  by_cases h2 : p.1 = 35 ∨ p.1 = 36
  ·rw [if_pos h2, if_pos h2]
  ·rw [if_neg h2, if_neg h2]
   by_cases h3 : 29 ≤ p.1 ∧ p.1 ≤ 34
   ·rw [if_pos h3, if_pos h3]
    by_cases h4 : nth = 0
    ·simp [h4]
    ·simp [h4]
   ·rw [if_neg h3, if_neg h3]
    by_cases h4 : p.1 = 61
    ·rw [if_pos h4, if_pos h4]
     by_cases h5 : nth = 2
     ·simp [h5]
     ·simp [h5]
    ·rw [if_neg h4, if_neg h4]; simp
abbrev PN := Prt × Int
def paren : PN := ((28, 1, ByteArray.empty), -1)
def brk (p : Prt) (nth : Nat) (kid : Prt) : List PN := if looseZ p nth kid then [paren] else []
section
variable (l : List Prt) (from' : List Int)
def pnAt (i : Nat) : PN := (l.getD i (0, 0, ByteArray.empty), from'.getD i 0)
def ptAt (i : Nat) : Prt := l.getD i (0, 0, ByteArray.empty)
mutual
def gPart : Nat → Nat → List PN
 | 0, _ => []
 | n + 1, i => pnAt l from' i :: gKids n (ptAt l i) 0 (i + 1) (endB l i)
def gKids : Nat → Prt → Nat → Nat → Nat → List PN
 | 0, _, _, _, _ => []
 | n + 1, p, nth, k, stop => if k = stop then [] else brk p nth (ptAt l k) ++ (gPart n k ++ gKids n p (nth + 1) (endB l k) stop)
end
def looseAt (j : Nat) : Bool := match upN l j with
 | .ofNat p => looseZ (ptAt l p) ((kidsB l p).idxOf j) (ptAt l j)
 | .negSucc _ => false
def gOne (j : Nat) : List PN := (if looseAt l j then [paren] else []) ++ [pnAt l from' j]
def gSeg (a b : Nat) : List PN := (List.range' a (b - a)).flatMap (gOne l from')
theorem gSeg_add {a b c : Nat} (h1 : a ≤ b) (h2 : b ≤ c) : gSeg l from' a c = gSeg l from' a b ++ gSeg l from' b c := by
 unfold gSeg
 rw [← List.flatMap_append, show c - a = (b - a) + (c - b) by omega]
 congr 1
 have := List.range'_append (s := a) (m := b - a) (n := c - b) (step := 1)
 rw [Nat.one_mul, show a + (b - a) = b by omega] at this
 exact this.symm
theorem gSeg_one (a : Nat) : gSeg l from' a (a + 1) = gOne l from' a := by
 unfold gSeg
 rw [show a + 1 - a = 1 by omega]
 simp [List.range'_succ]
theorem gSeg_nil (a : Nat) : gSeg l from' a a = [] := by unfold gSeg; rw [Nat.sub_self]; rfl
variable {l}
theorem kids_list {us : List Nat} (hl : rowsB l = some us) {i : Nat} (hi : i < l.length) : ∃ q, (l[i]).2.1 = ((q : Nat) : Int) ∧ advT l q (i + 1) (endB l i) = some (endB l i) ∧ (kidsB l i).length = q ∧ ∀ n, n < q → (kidsB l i)[n]? = some (kidAt l n (i + 1)) := by
 obtain ⟨ts, q, h1, h2, h3, h4, h5⟩ := kids_facts hl hi
 obtain ⟨q', g1, g2⟩ := adv_kids hl hi
 obtain rfl : q = q' := by omega
 refine ⟨q, h2, g2, by rw [h5, List.length_take, starts_length]; omega, fun n hn => ?_⟩
 have hk : ∀ m n, n + m ≤ q → kidAt l m (i + 1 + (ts.take n).sum) = i + 1 + (ts.take (n + m)).sum := by
  intro m
  induction m with
  | zero => intro n _; rfl
  | succ m ih =>
   intro n hn
   obtain ⟨_, k2, _⟩ := kid_step hl h1 h3 (show n < q by omega)
   rw [kidAt, k2, ih (n + 1) (by omega)]
   congr 3; omega
 have := hk n 0 (by omega)
 simp only [List.take_zero, List.sum_nil, Nat.add_zero, Nat.zero_add] at this
 rw [this, h5, List.getElem?_take, if_pos hn]
 have hg := starts_get ts (i + 1) n (by omega)
 have hl2 := starts_length ts (i + 1)
 rw [List.getD_eq_getElem?_getD, List.getElem?_eq_getElem (by omega)] at hg
 rw [List.getElem?_eq_getElem (by omega)]
 simpa using hg
theorem kid_mono {us : List Nat} (hl : rowsB l = some us) {stop k : Nat} (hs : stop ≤ l.length) {n m b c : Nat} (hb : advT l n k stop = some b) (hc : advT l m k stop = some c) (h : n < m) : b < c := by
 rw [show m = n + (m - n) by omega, adv_add, hb, Option.bind_some] at hc
 have := adv_le hl _ _ _ _ hs hc
 omega
theorem loose_kid {us : List Nat} (hl : rowsB l = some us) {i : Nat} (hi : i < l.length) {n k : Nat} (hk : advT l n (i + 1) (endB l i) = some k) (hlt : k < endB l i) : looseAt l k = looseZ (ptAt l i) n (ptAt l k) := by
 obtain ⟨q, h1, h2, h3, h4⟩ := kids_list hl hi
 have hg := endB_gt hl hi
 have hle := adv_le hl _ _ _ _ hg.2 hk
 obtain ⟨r1, r2, r3⟩ := adv_rest hl hg.2 h2 hk
 have hnq : n < q := by
  rcases Nat.lt_or_ge n q with c | c
  ·exact c
  ·exfalso
   have : q = n := by omega
   subst this
   rw [h2] at hk; cases hk; omega
 have hup : upN l k = (i : Int) := by
  apply up_of hl hi (by omega) hlt
  intro j hj1 hj2
  -- j lies within an earlier kid
  have key : ∀ m b, advT l m (i + 1) (endB l i) = some b → ∀ j, i < j → j < b → endB l j ≤ b := by
   intro m
   induction m with
   | zero => intro b hb j h1 h2; rw [advT] at hb; cases hb; omega
   | succ m ih =>
    intro b hb j g1 g2
    rw [adv_add l m 1] at hb
    cases hm : advT l m (i + 1) (endB l i) with
    | none => rw [hm] at hb; cases hb
    | some c =>
     rw [hm, Option.bind_some, advT] at hb
     split at hb
     ·rename_i hc
      rw [advT] at hb
      cases hb
      rcases Nat.lt_trichotomy j c with c1 | c1 | c1
      ·have h1 := ih c hm j g1 c1
       have := (endB_gt hl (show c < l.length by omega)).1
       omega
      ·subst c1; exact Nat.le_refl _
      ·-- within the tree at c
       have hc1 : c < l.length := by omega
       have hp := piece_well hl hc1
       have hgc := endB_gt hl hc1
       have hS := piece_sits hl (show c ≤ endB l c by omega) (wellB_iff.1 hp.1)
       have hx : j - c < (piece l c (endB l c)).length := by rw [hp.2]; omega
       have e1 := hS.end_ hx
       have e2 := endB_gt (wellB_iff.1 hp.1) hx
       rw [hp.2] at e2
       rw [show j - c + c = j by omega] at e1
       omega
     ·cases hb
  exact key n k hk j hj1 hj2
 unfold looseAt
 rw [hup]
 show looseZ (ptAt l i) ((kidsB l i).idxOf k) (ptAt l k) = _
 have e : (kidsB l i)[n]? = some k := by rw [h4 n hnq, adv_kid hk]
 congr 1
 rw [List.idxOf, List.findIdx_eq (by rw [h3]; exact hnq)]
 obtain ⟨hn', he⟩ := List.getElem?_eq_some_iff.1 e
 refine ⟨by simpa using he, fun j hj => ?_⟩
 have hjq : j < q := by omega
 have ej := h4 j hjq
 obtain ⟨_, he2⟩ := List.getElem?_eq_some_iff.1 ej
 rw [he2]
 simp only [beq_eq_false_iff_ne]
 intro e3
 have hadv : ∃ b, advT l j (i + 1) (endB l i) = some b := by
  have := h2
  rw [show q = j + (q - j) by omega, adv_add] at this
  cases hj' : advT l j (i + 1) (endB l i) with
  | none => rw [hj'] at this; cases this
  | some b => exact ⟨b, rfl⟩
 obtain ⟨b, hb⟩ := hadv
 have := kid_mono hl hg.2 hb hk hj
 rw [adv_kid hb] at e3
 omega
variable (l)
theorem g_seg {us : List Nat} (hl : rowsB l = some us) : ∀ n, (∀ i, i < l.length → 2 * (endB l i - i) ≤ n → gPart l from' n i = pnAt l from' i :: gSeg l from' (i + 1) (endB l i)) ∧
  (∀ i k nth, i < l.length → advT l nth (i + 1) (endB l i) = some k → k ≤ endB l i → 2 * (endB l i - k) + 1 ≤ n → gKids l from' n (ptAt l i) nth k (endB l i) = gSeg l from' k (endB l i))
 | 0 => ⟨(fun i hi h => by have := (endB_gt hl hi).1; omega), (fun _ _ _ _ _ _ h => by omega)⟩
 | n + 1 => by
  obtain ⟨h1, h2⟩ := g_seg hl n
  constructor
  ·intro i hi h
   have hg := endB_gt hl hi
   rw [gPart, h2 i (i + 1) 0 hi rfl (by omega) (by omega)]
  ·intro i k nth hi hk hle h
   have hg := endB_gt hl hi
   rw [gKids]
   split
   ·rename_i e; subst e; rw [gSeg_nil]
   ·rename_i e
    have hkl : k < endB l i := by omega
    have hgk := endB_gt hl (show k < l.length by omega)
    obtain ⟨q, _, hq⟩ := adv_kids hl hi
    obtain ⟨_, _, r3⟩ := adv_rest hl hg.2 hq hk
    obtain ⟨_, J, _, hJ⟩ := adv_next r3 e
    have hle2 := adv_le hl _ _ _ _ hg.2 hJ
    have hk2 : advT l (nth + 1) (i + 1) (endB l i) = some (endB l k) := by rw [adv_add, hk, Option.bind_some, advT, if_pos hkl, advT]
    rw [h1 k (by omega) (by omega), h2 i (endB l k) (nth + 1) hi hk2 (by omega) (by omega)]
    rw [gSeg_add l from' (show k ≤ k + 1 by omega) (show k + 1 ≤ endB l i by omega), gSeg_one, gSeg_add l from' (show k + 1 ≤ endB l k by omega) (show endB l k ≤ endB l i by omega)]
    unfold gOne brk
    rw [loose_kid hl hi hk hkl]
    simp
def guardZ : List PN := gSeg l from' 0 l.length
theorem guard_part (hl : wellB l = true) : gPart l from' (2 * l.length) 0 = guardZ l from' := by
 have h0 := well_zero hl
 have hw := well_rows hl
 rw [(g_seg l from' hw _).1 0 h0.1 (by rw [h0.2]; omega), h0.2]
 unfold guardZ
 rw [gSeg_add l from' (show 0 ≤ 1 by omega) (show 1 ≤ l.length by omega), gSeg_one]
 unfold gOne looseAt
 have : upN l 0 = Int.negSucc 0 := rfl
 rw [this]
 rfl
end
section
variable (l : List Prt) (from' : List Int)
end
end Go.Proofs.YtmklemelgdilkaaDoor
namespace Go.Proofs.YtmklemelgdilkaaDoor
set_option linter.all false

section
variable (t l : List Prt) (hs : List Hl) (b : Nat → Nat × Nat)
def srcL (x y : Nat) : List PN := (List.range' x (y - x)).map fun i => (ptAt l i, (i : Int))
theorem srcL_fst {x y : Nat} (h1 : x ≤ y) (h2 : y ≤ l.length) : (srcL l x y).map (·.1) = piece l x y := by
 unfold srcL piece
 rw [List.map_map]
 apply List.ext_getElem
 ·simp; omega
 ·intro k g1 g2
  simp at g1
  simp [ptAt, List.getD_eq_getElem?_getD, show x + k < l.length by omega]
theorem srcL_len (x y : Nat) : (srcL l x y).length = y - x := by unfold srcL; simp
theorem srcL_nil {x y : Nat} (h : y ≤ x) : srcL l x y = [] := by unfold srcL; rw [show y - x = 0 by omega]; rfl
mutual
def mPart : Nat → Nat → List PN
 | 0, _ => []
 | n + 1, p => match holeOf t hs p with
  | some h => srcL l (b h).1 (b h).2
  | none => match t[p]? with
   | some a => ((a.1, (cntP ((mKids n (p + 1) (endB t p)).map (·.1)) : Int), a.2.2), -1) :: mKids n (p + 1) (endB t p)
   | none => []
def mKids : Nat → Nat → Nat → List PN
 | 0, _, _ => []
 | n + 1, p, pend => if p = pend then [] else mPart n p ++ mKids n (endB t p) pend
end
theorem m_inst (hb : ∀ h, (b h).1 ≤ (b h).2 ∧ (b h).2 ≤ l.length) : ∀ n, (∀ p, (mPart t l hs b n p).map (·.1) = iPart t hs (fun h => piece l (b h).1 (b h).2) n p) ∧ (∀ p pend, (mKids t l hs b n p pend).map (·.1) = iKids t hs (fun h => piece l (b h).1 (b h).2) n p pend)
 | 0 => ⟨(fun p => by rw [mPart, iPart]; rfl), (fun p pend => by rw [mKids, iKids]; rfl)⟩
 | n + 1 => by
  obtain ⟨h1, h2⟩ := m_inst hb n
  constructor
  ·intro p
   rw [mPart, iPart]
   cases holeOf t hs p with
   | some h => exact srcL_fst l (hb h).1 (hb h).2
   | none =>
    simp only []
    cases t[p]? with
    | none => rfl
    | some a => simp only [List.map_cons, h2]
  ·intro p pend
   rw [mKids, iKids]
   split
   ·rfl
   ·rw [List.map_append, h1, h2]
def sizeS : Nat → Nat → Nat
 | 0, _ => 0
 | n + 1, p => if p < t.length then (match holeOf t hs p with
  | some h => ((b h).2 - (b h).1) + sizeS n (if kindAt t p = 50 then p + 2 else p + 1)
  | none => 1 + sizeS n (p + 1)) else 0
theorem sizeS_fuel : ∀ n m p, t.length ≤ p + n → t.length ≤ p + m → sizeS t hs b n p = sizeS t hs b m p
 | 0, 0, p, _, _ => rfl
 | 0, m + 1, p, h, _ => by rw [sizeS, sizeS, if_neg (by omega)]
 | n + 1, 0, p, _, h => by rw [sizeS, sizeS, if_neg (by omega)]
 | n + 1, m + 1, p, h1, h2 => by
  rw [sizeS, sizeS]
  split
  ·cases holeOf t hs p with
   | some h =>
    simp only []
    rw [sizeS_fuel n m _ (by split <;> omega) (by split <;> omega)]
   | none =>
    simp only []
    rw [sizeS_fuel n m _ (by omega) (by omega)]
  ·rfl
theorem m_size (H : HolesOK t hs) : ∀ n, (∀ p, p < t.length → 2 * (endB t p - p) ≤ n → ∀ N, t.length ≤ p + N → sizeS t hs b N p = (mPart t l hs b n p).length + sizeS t hs b (N - (endB t p - p)) (endB t p)) ∧
  (∀ p pend K, pend ≤ t.length → advT t K p pend = some pend → p ≤ pend → 2 * (pend - p) + 1 ≤ n → ∀ N, t.length ≤ p + N → sizeS t hs b N p = (mKids t l hs b n p pend).length + sizeS t hs b (N - (pend - p)) pend)
 | 0 => ⟨(fun p hp h => by have := (endB_gt (well_rows H.well) hp).1; omega), (fun _ _ _ _ _ _ h => by omega)⟩
 | n + 1 => by
  obtain ⟨h1, h2⟩ := m_size H n
  have hf := well_rows H.well
  constructor
  ·intro p hp hn N hN
   have hg := endB_gt hf hp
   obtain ⟨N, rfl⟩ : ∃ N', N = N' + 1 := ⟨N - 1, by omega⟩
   rw [sizeS, if_pos hp, mPart]
   cases ho : holeOf t hs p with
   | some h =>
    simp only []
    rw [srcL_len]
    congr 1
    obtain ⟨hh, e⟩ := holeOf_inv ho
    have hk : kindAt t p = (t[p]).1 := by unfold kindAt; rw [List.getElem?_eq_getElem hp]
    have hend : endB t p = if kindAt t p = 50 then p + 2 else p + 1 := by
     rcases stands_inv e with ⟨a1, a2, a3, a4, a5⟩ | ⟨a1, a2, a5⟩
     ·have g1 := end_stmt hf hp (H.stmt p hp a4)
      have g2 := end_leaf hf a3 (H.leaf _ a3 (place_name a5).1)
      rw [if_pos (by rw [hk]; exact a4)]; omega
     ·rw [if_neg (by rw [hk, (place_name a5).1]; omega)]
      exact end_leaf hf hp (H.leaf _ hp (place_name a5).1)
    rw [← hend]
    exact sizeS_fuel t hs b _ _ _ (by omega) (by omega)
   | none =>
    rw [List.getElem?_eq_getElem hp]
    simp only []
    obtain ⟨q, _, hq⟩ := adv_kids hf hp
    rw [List.length_cons, h2 (p + 1) (endB t p) q hg.2 hq (by omega) (by omega) N (by omega)]
    rw [show N + 1 - (endB t p - p) = N - (endB t p - (p + 1)) by omega]
    omega
  ·intro p pend K hpe hK hle hn N hN
   rw [mKids]
   split
   ·rename_i e
    subst e
    rw [Nat.sub_self, Nat.sub_zero]
    simp
   ·rename_i e
    obtain ⟨hlt, J, _, hJ⟩ := adv_next hK e
    have hg := endB_gt hf (show p < t.length by omega)
    have hle2 := adv_le hf _ _ _ _ hpe hJ
    rw [h1 p (by omega) (by omega) N hN, h2 (endB t p) pend J hpe hJ (by omega) (by omega) _ (by omega), List.length_append]
    rw [show N - (endB t p - p) - (pend - endB t p) = N - (pend - p) by omega]
    omega
end
abbrev Mk := Nat × List PN × Int
section
variable (l : List Prt)
def moreAt : List Mk → Nat → Int
 | [], _ => 0
 | (x, _, d) :: P, i => (if 0 < x ∧ upN l x = (i : Int) then d else 0) + moreAt P i
def stayN (P : List Mk) (i : Nat) : PN := (((ptAt l i).1, (ptAt l i).2.1 + moreAt l P i, (ptAt l i).2.2), (i : Int))
def outGo (all : List Mk) : Nat → Nat → List Mk → List PN
 | 0, _, _ => []
 | n + 1, i, P => if i < l.length then (match P with
  | (x, m, _) :: R => if x = i then m ++ outGo all n (endB l i) R else stayN l all i :: outGo all n (i + 1) P
  | [] => stayN l all i :: outGo all n (i + 1) []) else []
def Free : Nat → List Mk → Prop
 | _, [] => True
 | a, (x, _, _) :: P => a ≤ x ∧ x < l.length ∧ Free (endB l x) P
def laterZ : List Mk → Nat → Int
 | [], a => (l.length : Int) - a
 | (x, m, _) :: P, a => (x : Int) - a + m.length + laterZ P (endB l x)
def stays (all : List Mk) (a b : Nat) : List PN := (List.range' a (b - a)).map (stayN l all)
theorem stays_cons (all : List Mk) {a b : Nat} (h : a < b) : stays l all a b = stayN l all a :: stays l all (a + 1) b := by
 unfold stays
 rw [show b - a = (b - (a + 1)) + 1 by omega, List.range'_succ, List.map_cons]
theorem stays_nil (all : List Mk) (a : Nat) : stays l all a a = [] := by unfold stays; rw [Nat.sub_self]; rfl
theorem stays_len (all : List Mk) (a b : Nat) : (stays l all a b).length = b - a := by unfold stays; simp
theorem outGo_to (all : List Mk) {us : List Nat} (hl : rowsB l = some us) : ∀ (n i x : Nat) (m : List PN) (d : Int) (R : List Mk), i ≤ x → x < l.length → l.length - i < n → ∃ n', l.length - endB l x < n' ∧ outGo l all n i ((x, m, d) :: R) = stays l all i x ++ (m ++ outGo l all n' (endB l x) R)
 | 0, i, x, m, d, R, _, _, h => by omega
 | n + 1, i, x, m, d, R, hi, hx, hn => by
  rw [outGo, if_pos (by omega)]
  by_cases e : x = i
  ·subst e
   rw [if_pos rfl, stays_nil]
   have := endB_gt hl hx
   exact ⟨n, by omega, rfl⟩
  ·rw [if_neg e, stays_cons l all (show i < x by omega)]
   obtain ⟨n', h1, h2⟩ := outGo_to all hl n (i + 1) x m d R (by omega) hx (by omega)
   exact ⟨n', h1, by rw [h2]; rfl⟩
theorem outGo_end (all : List Mk) : ∀ (n i : Nat), l.length - i < n → outGo l all n i [] = stays l all i l.length
 | 0, i, h => by omega
 | n + 1, i, hn => by
  rw [outGo]
  by_cases h : i < l.length
  ·rw [if_pos h, stays_cons l all h, outGo_end all n (i + 1) (by omega)]
  ·rw [if_neg h]
   unfold stays
   rw [show l.length - i = 0 by omega]; rfl
theorem outGo_len (all : List Mk) {us : List Nat} (hl : rowsB l = some us) : ∀ (P : List Mk) (n i : Nat), Free l i P → l.length - i < n → i ≤ l.length → ((outGo l all n i P).length : Int) = laterZ l P i
 | [], n, i, _, h1, hi => by rw [outGo_end l all n i h1, stays_len, laterZ]; omega
 | (x, q, d) :: R, n, i, hf, h1, hi => by
  obtain ⟨g1, g2, g3⟩ := hf
  obtain ⟨n', e1, e2⟩ := outGo_to l all hl n i x q d R g1 g2 h1
  have hg := endB_gt hl g2
  have ih := outGo_len all hl R n' _ g3 e1 hg.2
  rw [e2, List.length_append, List.length_append, stays_len, laterZ]
  omega
end
end Go.Proofs.YtmklemelgdilkaaDoor
namespace Go.Proofs.YtmklemelgdilkaaDoor
set_option linter.all false

end Go.Proofs.YtmklemelgdilkaaDoor
namespace Go.Proofs.YtmklemelgdilkaaDoor
set_option linter.all false

structure KidSeq (f : List Prt) (p q : Nat) (kp : Nat → Nat) : Prop where
 len : (kidsB f p).length = q
 get : ∀ c, c < q → (kidsB f p)[c]? = some (kp c)
 lt : ∀ c, c < q → kp c < f.length
 nx : ∀ c, c < q → endB f (kp c) = kp (c + 1)
 up : ∀ c, c < q → kp c < kp (c + 1)
 le : ∀ c, c ≤ q → kp c ≤ endB f p
 z : kp 0 = p + 1
 e : kp q = endB f p
 n : (q : Int) ≤ f.length
theorem kid_seq {f : List Prt} {us : List Nat} (h : rowsB f = some us) {p : Nat} (hp : p < f.length) : ∃ q kp, KidSeq f p q kp := by
 obtain ⟨ts, q, f1, f2, f3, f4, f5⟩ := kids_facts h hp
 have hl := (rowsB_sum f1).2.1
 rw [List.length_drop] at hl
 refine ⟨q, fun c => p + 1 + (ts.take c).sum, ⟨?_, fun c hc => ?_, fun c hc => ?_, fun c hc => ?_, fun c hc => ?_, fun c hc => ?_, by simp, f4.symm, by omega⟩⟩
 ·rw [f5, List.length_take, starts_length]; omega
 ·obtain ⟨_, _, g3, _⟩ := kid_step h f1 f3 hc
  have e1 : (starts (p + 1) ts)[c]? = some (p + 1 + (ts.take c).sum) := by
   have e2 : ((starts (p + 1) ts).take (c + 1))[c]? = some (p + 1 + (ts.take c).sum) := by
    rw [g3, List.getElem?_append_right (by rw [List.length_take, starts_length]; omega), List.length_take, starts_length, Nat.min_eq_left (by omega), Nat.sub_self]
    rfl
   rw [List.getElem?_take_of_lt (by omega)] at e2
   exact e2
  rw [f5, List.getElem?_take_of_lt hc, e1]
 ·exact (kid_step h f1 f3 hc).1
 ·exact (kid_step h f1 f3 hc).2.1
 ·have := (kid_step h f1 f3 hc).2.2.2.2.1
  show p + 1 + _ < p + 1 + _
  omega
 ·rw [f4]
  have := sum_take_add ts c (q - c)
  rw [show c + (q - c) = q by omega] at this
  show p + 1 + _ ≤ p + 1 + _
  omega
section
variable {f l : List Prt} {hs : List Hl} {L : Nat → Nat}
end
end Go.Proofs.YtmklemelgdilkaaDoor
namespace Go.Proofs.YtmklemelgdilkaaDoor
set_option linter.all false

end Go.Proofs.YtmklemelgdilkaaDoor
namespace Go.Proofs.YtmklemelgdilkaaDoor
set_option linter.all false
open Go.RowKit

theorem Row.cells {w w' : World} {v : Value} {n sz : Nat} {cs : List Value} (h : Row w v n sz cs) (hb : Below w.heap.size w w') (hn : 0 < n) :
  ∃ b off cap, v = .slice (some ⟨b, off, none⟩) n cap ∧ n ≤ cap ∧ b < w.heap.size ∧ ∀ i, i < n * sz → w'.cell? ⟨b, off + i, none⟩ = cs[i]? := by
 obtain ⟨h1, a, cap, hv, hc, hz, h2⟩ := h
 obtain ⟨b, off, ha, hlt, hcell⟩ := h2 hn
 subst ha
 exact ⟨b, off, cap, hv, hc, hlt, fun i hi => by rw [hb.cell (p := ⟨b, off + i, none⟩) hlt]; exact hcell i hi⟩
theorem Row.shape {w : World} {v : Value} {n sz : Nat} {cs : List Value} (h : Row w v n sz cs) : ∃ a cap, v = .slice a n cap ∧ n ≤ cap := by
 obtain ⟨_, a, cap, hv, hc, _⟩ := h; exact ⟨a, cap, hv, hc⟩
theorem flat_at {α : Type} {g : α → List Value} {sz : Nat} (hg : ∀ x, (g x).length = sz) : ∀ (l : List α) (i j : Nat) (hi : i < l.length), j < sz → (l.flatMap g)[i * sz + j]? = (g l[i])[j]?
 | x :: l, 0, j, _, hj => by
  rw [List.flatMap_cons, Nat.zero_mul, Nat.zero_add, List.getElem?_append_left (by rw [hg]; exact hj)]; rfl
 | x :: l, i + 1, j, hi, hj => by
  have h1 : (g x).length ≤ (i + 1) * sz + j := by rw [hg, Nat.add_mul]; omega
  rw [List.flatMap_cons, List.getElem?_append_right h1, hg, show (i + 1) * sz + j - sz = i * sz + j by rw [Nat.add_mul]; omega]
  rw [flat_at hg l i j (by simpa using hi) hj]
  rfl
def holeV (h : Hl) : List Value := [.string h.1, .int .u8 (h.2 : Int)]
def holesV (hs : List Hl) : List Value := hs.flatMap holeV
def HoleRow (w : World) (v : Value) (hs : List Hl) : Prop := Row w v hs.length 2 (holesV hs)
theorem HoleRow.below {w w' : World} {v : Value} {hs : List Hl} (h : HoleRow w v hs) (hb : Below w.heap.size w w') : HoleRow w' v hs := Row.below h hb
theorem HoleRow.at {w w' : World} {a : Option Addr} {n cap : Nat} {hs : List Hl} (h : HoleRow w (.slice a n cap) hs) (hb : Below w.heap.size w w') (hp : 0 < hs.length) :
  ∃ b off, a = some ⟨b, off, none⟩ ∧ n = hs.length ∧ hs.length ≤ cap ∧ b < w.heap.size ∧ ∀ i (hi : i < hs.length), w'.cell? ⟨b, off + i * 2, none⟩ = some (.string hs[i].1) ∧ w'.cell? ⟨b, off + i * 2 + 1, none⟩ = some (.int .u8 (hs[i].2 : Int)) := by
 obtain ⟨b, off, cap', hv, hc, hlt, hcell⟩ := Row.cells h hb hp
 simp only [Value.slice.injEq] at hv
 obtain ⟨rfl, rfl, rfl⟩ := hv
 refine ⟨b, off, rfl, rfl, hc, hlt, fun i hi => ⟨?_, ?_⟩⟩
 ·rw [hcell _ (by omega)]
  have := flat_at (g := holeV) (sz := 2) (fun _ => rfl) hs i 0 hi (by omega)
  rw [Nat.add_zero] at this
  exact this
 ·rw [Nat.add_assoc, hcell _ (by omega)]
  exact flat_at (g := holeV) (sz := 2) (fun _ => rfl) hs i 1 hi (by omega)
def bindV (b : Bnd) : List Value := [.string b.1, .int .i64 b.2.1, .int .i64 b.2.2]
def bindsV (bs : List Bnd) : List Value := bs.flatMap bindV
def BindRow (w : World) (v : Value) (bs : List Bnd) : Prop := Row w v bs.length 3 (bindsV bs)
theorem BindRow.below {w w' : World} {v : Value} {bs : List Bnd} (h : BindRow w v bs) (hb : Below w.heap.size w w') : BindRow w' v bs := Row.below h hb
theorem BindRow.at {w w' : World} {a : Option Addr} {n cap : Nat} {bs : List Bnd} (h : BindRow w (.slice a n cap) bs) (hb : Below w.heap.size w w') (hp : 0 < bs.length) :
  ∃ b off, a = some ⟨b, off, none⟩ ∧ n = bs.length ∧ bs.length ≤ cap ∧ b < w.heap.size ∧ ∀ i (hi : i < bs.length), w'.cell? ⟨b, off + i * 3, none⟩ = some (.string bs[i].1) ∧ w'.cell? ⟨b, off + i * 3 + 1, none⟩ = some (.int .i64 bs[i].2.1) ∧ w'.cell? ⟨b, off + i * 3 + 2, none⟩ = some (.int .i64 bs[i].2.2) := by
 obtain ⟨b, off, cap', hv, hc, hlt, hcell⟩ := Row.cells h hb hp
 simp only [Value.slice.injEq] at hv
 obtain ⟨rfl, rfl, rfl⟩ := hv
 refine ⟨b, off, rfl, rfl, hc, hlt, fun i hi => ⟨?_, ?_, ?_⟩⟩
 ·rw [hcell _ (by omega)]
  have := flat_at (g := bindV) (sz := 3) (fun _ => rfl) bs i 0 hi (by omega)
  rw [Nat.add_zero] at this
  exact this
 ·rw [Nat.add_assoc, hcell _ (by omega)]
  exact flat_at (g := bindV) (sz := 3) (fun _ => rfl) bs i 1 hi (by omega)
 ·rw [Nat.add_assoc, hcell _ (by omega)]
  exact flat_at (g := bindV) (sz := 3) (fun _ => rfl) bs i 2 hi (by omega)
def ruleAgg (r : RuleM) (vh vf vb : Value) : Value := .agg #[.string r.nm, .int .u8 (r.goal : Int), vh, vf, vb]
structure RuleIn (w : World) (r : RuleM) (vh vf vb : Value) : Prop where
 H : HoleRow w vh r.holes
 F : PartRow w vf r.fnd
 B : PartRow w vb r.by'
theorem RuleIn.below {w w' : World} {r : RuleM} {vh vf vb : Value} (h : RuleIn w r vh vf vb) (hb : Below w.heap.size w w') : RuleIn w' r vh vf vb := ⟨h.H.below hb, h.F.below hb, h.B.below hb⟩
def SmallL (l : List Prt) : Prop := l.length ≤ 1048576 ∧ ∀ p ∈ l, p.1 < 256 ∧ p.2.2.size ≤ 1048576
structure SmallR (r : RuleM) : Prop where
 n : r.nm.size ≤ 1048576
 g : r.goal < 256
 h : r.holes.length ≤ 1048576 ∧ ∀ x ∈ r.holes, x.1.size ≤ 1048576 ∧ x.2 < 256
 f : SmallL r.fnd
 b : SmallL r.by'
end Go.Proofs.YtmklemelgdilkaaDoor
namespace Go.Proofs.YtmklemelgdilkaaDoor
set_option linter.all false
open Go.RowKit

end Go.Proofs.YtmklemelgdilkaaDoor
namespace Go.Proofs.YtmklemelgdilkaaDoor
set_option linter.all false
attribute [local irreducible] Calls
open Go.RowKit

def partA (p : Prt) : Value := .agg #[.int .u8 (p.1 : Int), .int .i64 p.2.1, .string p.2.2]
def lvl (i : Nat) : List (List UInt8) := match i with
 | 0 => wL1
 | 1 => wL2
 | 2 => wL3
 | 3 => wL4
 | _ => wL5
theorem lvl_fine (i : Nat) : ∀ v ∈ lvl i, (32 : UInt8) ∉ v ∧ v ≠ [] := by
 match i with
 | 0 => decide
 | 1 => decide
 | 2 => decide
 | 3 => decide
 | n + 4 => show ∀ v ∈ wL5, _; decide
theorem lvl_has (i : Nat) (s : ByteArray) : (decide (s.toList ≠ []) && (!Lib.contains s.toList [32] && Lib.contains (jn (lvl i)) (32 :: (s.toList ++ [32])))) = decide (s.toList ∈ lvl i) := among_jn (lvl_fine i)
theorem lvW_of (s : ByteArray) : lvW s = if s.toList ∈ lvl 0 then 1 else if s.toList ∈ lvl 1 then 2 else if s.toList ∈ lvl 2 then 3 else if s.toList ∈ lvl 3 then 4 else if s.toList ∈ lvl 4 then 5 else 1 := rfl
end Go.Proofs.YtmklemelgdilkaaDoor
