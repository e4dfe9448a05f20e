/- Layer 20 in plain Lean: what a rule makes. -/
import Derived.Test.YtmklemelgdilkaaDoorGuardPMg
import Derived.Test.YtmklemelgdilkaaDoorRulePMg
import Derived.Test.YtmklemelgdilkaaDoorCheckBMg
import Derived.Test.YtmklemelgdilkaaDoorTermSameMg
import Derived.Test.YtmklemelgdilkaaDoorQuoted2Mg
namespace Go.Proofs.YtmklemelgdilkaaDoor
set_option linter.all false

section
variable (t l : List Prt) (hs : List Hl) (b : Nat → Nat × Nat)
def srcL (x y : Nat) : List PN := (List.range' x (y - x)).map fun i => (ptAt l i, (i : Int))
theorem srcL_fst {x y : Nat} (h1 : x ≤ y) (h2 : y ≤ l.length) : (srcL l x y).map (·.1) = piece l x y := by
 unfold srcL piece
 rw [List.map_map]
 apply List.ext_getElem
 ·simp; omega
 ·intro k g1 g2
  simp at g1
  simp [ptAt, List.getD_eq_getElem?_getD, show x + k < l.length by omega]
theorem srcL_len (x y : Nat) : (srcL l x y).length = y - x := by unfold srcL; simp
theorem srcL_nil {x y : Nat} (h : y ≤ x) : srcL l x y = [] := by unfold srcL; rw [show y - x = 0 by omega]; rfl
mutual
def mPart : Nat → Nat → List PN
 | 0, _ => []
 | n + 1, p => match holeOf t hs p with
  | some h => srcL l (b h).1 (b h).2
  | none => match t[p]? with
   | some a => ((a.1, (cntP ((mKids n (p + 1) (endB t p)).map (·.1)) : Int), a.2.2), -1) :: mKids n (p + 1) (endB t p)
   | none => []
def mKids : Nat → Nat → Nat → List PN
 | 0, _, _ => []
 | n + 1, p, pend => if p = pend then [] else mPart n p ++ mKids n (endB t p) pend
end
theorem m_inst (hb : ∀ h, (b h).1 ≤ (b h).2 ∧ (b h).2 ≤ l.length) : ∀ n, (∀ p, (mPart t l hs b n p).map (·.1) = iPart t hs (fun h => piece l (b h).1 (b h).2) n p) ∧ (∀ p pend, (mKids t l hs b n p pend).map (·.1) = iKids t hs (fun h => piece l (b h).1 (b h).2) n p pend)
 | 0 => ⟨(fun p => by rw [mPart, iPart]; rfl), (fun p pend => by rw [mKids, iKids]; rfl)⟩
 | n + 1 => by
  obtain ⟨h1, h2⟩ := m_inst hb n
  constructor
  ·intro p
   rw [mPart, iPart]
   cases holeOf t hs p with
   | some h => exact srcL_fst l (hb h).1 (hb h).2
   | none =>
    simp only []
    cases t[p]? with
    | none => rfl
    | some a => simp only [List.map_cons, h2]
  ·intro p pend
   rw [mKids, iKids]
   split
   ·rfl
   ·rw [List.map_append, h1, h2]
def sizeS : Nat → Nat → Nat
 | 0, _ => 0
 | n + 1, p => if p < t.length then (match holeOf t hs p with
  | some h => ((b h).2 - (b h).1) + sizeS n (if kindAt t p = 50 then p + 2 else p + 1)
  | none => 1 + sizeS n (p + 1)) else 0
theorem sizeS_fuel : ∀ n m p, t.length ≤ p + n → t.length ≤ p + m → sizeS t hs b n p = sizeS t hs b m p
 | 0, 0, p, _, _ => rfl
 | 0, m + 1, p, h, _ => by rw [sizeS, sizeS, if_neg (by omega)]
 | n + 1, 0, p, _, h => by rw [sizeS, sizeS, if_neg (by omega)]
 | n + 1, m + 1, p, h1, h2 => by
  rw [sizeS, sizeS]
  split
  ·cases holeOf t hs p with
   | some h =>
    simp only []
    rw [sizeS_fuel n m _ (by split <;> omega) (by split <;> omega)]
   | none =>
    simp only []
    rw [sizeS_fuel n m _ (by omega) (by omega)]
  ·rfl
theorem m_size (H : HolesOK t hs) : ∀ n, (∀ p, p < t.length → 2 * (endB t p - p) ≤ n → ∀ N, t.length ≤ p + N → sizeS t hs b N p = (mPart t l hs b n p).length + sizeS t hs b (N - (endB t p - p)) (endB t p)) ∧
  (∀ p pend K, pend ≤ t.length → advT t K p pend = some pend → p ≤ pend → 2 * (pend - p) + 1 ≤ n → ∀ N, t.length ≤ p + N → sizeS t hs b N p = (mKids t l hs b n p pend).length + sizeS t hs b (N - (pend - p)) pend)
 | 0 => ⟨(fun p hp h => by have := (endB_gt (well_rows H.well) hp).1; omega), (fun _ _ _ _ _ _ h => by omega)⟩
 | n + 1 => by
  obtain ⟨h1, h2⟩ := m_size H n
  have hf := well_rows H.well
  constructor
  ·intro p hp hn N hN
   have hg := endB_gt hf hp
   obtain ⟨N, rfl⟩ : ∃ N', N = N' + 1 := ⟨N - 1, by omega⟩
   rw [sizeS, if_pos hp, mPart]
   cases ho : holeOf t hs p with
   | some h =>
    simp only []
    rw [srcL_len]
    congr 1
    obtain ⟨hh, e⟩ := holeOf_inv ho
    have hk : kindAt t p = (t[p]).1 := by unfold kindAt; rw [List.getElem?_eq_getElem hp]
    have hend : endB t p = if kindAt t p = 50 then p + 2 else p + 1 := by
     rcases stands_inv e with ⟨a1, a2, a3, a4, a5⟩ | ⟨a1, a2, a5⟩
     ·have g1 := end_stmt hf hp (H.stmt p hp a4)
      have g2 := end_leaf hf a3 (H.leaf _ a3 (place_name a5).1)
      rw [if_pos (by rw [hk]; exact a4)]; omega
     ·rw [if_neg (by rw [hk, (place_name a5).1]; omega)]
      exact end_leaf hf hp (H.leaf _ hp (place_name a5).1)
    rw [← hend]
    exact sizeS_fuel t hs b _ _ _ (by omega) (by omega)
   | none =>
    rw [List.getElem?_eq_getElem hp]
    simp only []
    obtain ⟨q, _, hq⟩ := adv_kids hf hp
    rw [List.length_cons, h2 (p + 1) (endB t p) q hg.2 hq (by omega) (by omega) N (by omega)]
    rw [show N + 1 - (endB t p - p) = N - (endB t p - (p + 1)) by omega]
    omega
  ·intro p pend K hpe hK hle hn N hN
   rw [mKids]
   split
   ·rename_i e
    subst e
    rw [Nat.sub_self, Nat.sub_zero]
    simp
   ·rename_i e
    obtain ⟨hlt, J, _, hJ⟩ := adv_next hK e
    have hg := endB_gt hf (show p < t.length by omega)
    have hle2 := adv_le hf _ _ _ _ hpe hJ
    rw [h1 p (by omega) (by omega) N hN, h2 (endB t p) pend J hpe hJ (by omega) (by omega) _ (by omega), List.length_append]
    rw [show N - (endB t p - p) - (pend - endB t p) = N - (pend - p) by omega]
    omega
end
abbrev Mk := Nat × List PN × Int
section
variable (l : List Prt)
def moreAt : List Mk → Nat → Int
 | [], _ => 0
 | (x, _, d) :: P, i => (if 0 < x ∧ upN l x = (i : Int) then d else 0) + moreAt P i
def stayN (P : List Mk) (i : Nat) : PN := (((ptAt l i).1, (ptAt l i).2.1 + moreAt l P i, (ptAt l i).2.2), (i : Int))
def outGo (all : List Mk) : Nat → Nat → List Mk → List PN
 | 0, _, _ => []
 | n + 1, i, P => if i < l.length then (match P with
  | (x, m, _) :: R => if x = i then m ++ outGo all n (endB l i) R else stayN l all i :: outGo all n (i + 1) P
  | [] => stayN l all i :: outGo all n (i + 1) []) else []
def Free : Nat → List Mk → Prop
 | _, [] => True
 | a, (x, _, _) :: P => a ≤ x ∧ x < l.length ∧ Free (endB l x) P
def laterZ : List Mk → Nat → Int
 | [], a => (l.length : Int) - a
 | (x, m, _) :: P, a => (x : Int) - a + m.length + laterZ P (endB l x)
def stays (all : List Mk) (a b : Nat) : List PN := (List.range' a (b - a)).map (stayN l all)
theorem stays_cons (all : List Mk) {a b : Nat} (h : a < b) : stays l all a b = stayN l all a :: stays l all (a + 1) b := by
 unfold stays
 rw [show b - a = (b - (a + 1)) + 1 by omega, List.range'_succ, List.map_cons]
theorem stays_nil (all : List Mk) (a : Nat) : stays l all a a = [] := by unfold stays; rw [Nat.sub_self]; rfl
theorem stays_len (all : List Mk) (a b : Nat) : (stays l all a b).length = b - a := by unfold stays; simp
theorem outGo_to (all : List Mk) {us : List Nat} (hl : rowsB l = some us) : ∀ (n i x : Nat) (m : List PN) (d : Int) (R : List Mk), i ≤ x → x < l.length → l.length - i < n → ∃ n', l.length - endB l x < n' ∧ outGo l all n i ((x, m, d) :: R) = stays l all i x ++ (m ++ outGo l all n' (endB l x) R)
 | 0, i, x, m, d, R, _, _, h => by omega
 | n + 1, i, x, m, d, R, hi, hx, hn => by
  rw [outGo, if_pos (by omega)]
  by_cases e : x = i
  ·subst e
   rw [if_pos rfl, stays_nil]
   have := endB_gt hl hx
   exact ⟨n, by omega, rfl⟩
  ·rw [if_neg e, stays_cons l all (show i < x by omega)]
   obtain ⟨n', h1, h2⟩ := outGo_to all hl n (i + 1) x m d R (by omega) hx (by omega)
   exact ⟨n', h1, by rw [h2]; rfl⟩
theorem outGo_end (all : List Mk) : ∀ (n i : Nat), l.length - i < n → outGo l all n i [] = stays l all i l.length
 | 0, i, h => by omega
 | n + 1, i, hn => by
  rw [outGo]
  by_cases h : i < l.length
  ·rw [if_pos h, stays_cons l all h, outGo_end all n (i + 1) (by omega)]
  ·rw [if_neg h]
   unfold stays
   rw [show l.length - i = 0 by omega]; rfl
theorem outGo_len (all : List Mk) {us : List Nat} (hl : rowsB l = some us) : ∀ (P : List Mk) (n i : Nat), Free l i P → l.length - i < n → i ≤ l.length → ((outGo l all n i P).length : Int) = laterZ l P i
 | [], n, i, _, h1, hi => by rw [outGo_end l all n i h1, stays_len, laterZ]; omega
 | (x, q, d) :: R, n, i, hf, h1, hi => by
  obtain ⟨g1, g2, g3⟩ := hf
  obtain ⟨n', e1, e2⟩ := outGo_to l all hl n i x q d R g1 g2 h1
  have hg := endB_gt hl g2
  have ih := outGo_len all hl R n' _ g3 e1 hg.2
  rw [e2, List.length_append, List.length_append, stays_len, laterZ]
  omega
end
end Go.Proofs.YtmklemelgdilkaaDoor
namespace Go.Proofs.YtmklemelgdilkaaDoor
set_option linter.all false

end Go.Proofs.YtmklemelgdilkaaDoor
namespace Go.Proofs.YtmklemelgdilkaaDoor
set_option linter.all false

structure KidSeq (f : List Prt) (p q : Nat) (kp : Nat → Nat) : Prop where
 len : (kidsB f p).length = q
 get : ∀ c, c < q → (kidsB f p)[c]? = some (kp c)
 lt : ∀ c, c < q → kp c < f.length
 nx : ∀ c, c < q → endB f (kp c) = kp (c + 1)
 up : ∀ c, c < q → kp c < kp (c + 1)
 le : ∀ c, c ≤ q → kp c ≤ endB f p
 z : kp 0 = p + 1
 e : kp q = endB f p
 n : (q : Int) ≤ f.length
theorem kid_seq {f : List Prt} {us : List Nat} (h : rowsB f = some us) {p : Nat} (hp : p < f.length) : ∃ q kp, KidSeq f p q kp := by
 obtain ⟨ts, q, f1, f2, f3, f4, f5⟩ := kids_facts h hp
 have hl := (rowsB_sum f1).2.1
 rw [List.length_drop] at hl
 refine ⟨q, fun c => p + 1 + (ts.take c).sum, ⟨?_, fun c hc => ?_, fun c hc => ?_, fun c hc => ?_, fun c hc => ?_, fun c hc => ?_, by simp, f4.symm, by omega⟩⟩
 ·rw [f5, List.length_take, starts_length]; omega
 ·obtain ⟨_, _, g3, _⟩ := kid_step h f1 f3 hc
  have e1 : (starts (p + 1) ts)[c]? = some (p + 1 + (ts.take c).sum) := by
   have e2 : ((starts (p + 1) ts).take (c + 1))[c]? = some (p + 1 + (ts.take c).sum) := by
    rw [g3, List.getElem?_append_right (by rw [List.length_take, starts_length]; omega), List.length_take, starts_length, Nat.min_eq_left (by omega), Nat.sub_self]
    rfl
   rw [List.getElem?_take_of_lt (by omega)] at e2
   exact e2
  rw [f5, List.getElem?_take_of_lt hc, e1]
 ·exact (kid_step h f1 f3 hc).1
 ·exact (kid_step h f1 f3 hc).2.1
 ·have := (kid_step h f1 f3 hc).2.2.2.2.1
  show p + 1 + _ < p + 1 + _
  omega
 ·rw [f4]
  have := sum_take_add ts c (q - c)
  rw [show c + (q - c) = q by omega] at this
  show p + 1 + _ ≤ p + 1 + _
  omega
section
variable {f l : List Prt} {hs : List Hl} {L : Nat → Nat}
end
end Go.Proofs.YtmklemelgdilkaaDoor
namespace Go.Proofs.YtmklemelgdilkaaDoor
set_option linter.all false

def bOf (bs : List Bnd) (h : Nat) : Nat × Nat := match bs[h]? with
 | some x => (x.2.1.toNat, x.2.2.toNat)
 | none => (0, 0)
def BindsIn (bs : List Bnd) (l : List Prt) : Prop := ∀ x ∈ bs, 0 ≤ x.2.1 ∧ x.2.1 ≤ x.2.2 ∧ x.2.2 ≤ l.length
theorem bOf_at {bs : List Bnd} {h : Nat} (hh : h < bs.length) : bOf bs h = ((bs[h]).2.1.toNat, (bs[h]).2.2.toNat) := by unfold bOf; rw [List.getElem?_eq_getElem hh]
theorem bOf_in {bs : List Bnd} {l : List Prt} (hb : BindsIn bs l) (h : Nat) : (bOf bs h).1 ≤ (bOf bs h).2 ∧ (bOf bs h).2 ≤ l.length := by
 by_cases hh : h < bs.length
 ·have := hb _ (List.getElem_mem hh)
  rw [bOf_at hh]
  simp only []
  omega
 ·unfold bOf
  rw [List.getElem?_eq_none (by omega)]
  simp
section
variable {t l : List Prt} {hs : List Hl} {b : Nat → Nat × Nat}
theorem sizeS_le {m : Nat} (hb : ∀ h, (b h).2 - (b h).1 ≤ m) : ∀ n p, sizeS t hs b n p ≤ n * (m + 1)
 | 0, p => by rw [sizeS]; omega
 | n + 1, p => by
  rw [sizeS, Nat.add_mul]
  split
  ·cases holeOf t hs p with
   | some h =>
    simp only []
    have h1 := hb h
    have h2 := sizeS_le hb n (if kindAt t p = 50 then p + 2 else p + 1)
    omega
   | none =>
    simp only []
    have h2 := sizeS_le hb n (p + 1)
    omega
  ·omega
theorem mPart_len (H : HolesOK t hs) {m : Nat} (hb : ∀ h, (b h).2 - (b h).1 ≤ m) {n p : Nat} (hp : p < t.length) (hn : 2 * (endB t p - p) ≤ n) : (mPart t l hs b n p).length ≤ t.length * (m + 1) := by
 have h1 := (m_size t l hs b H n).1 p hp hn t.length (by omega)
 have h2 := sizeS_le (t := t) (hs := hs) hb t.length p
 omega
theorem mp_hole {n p h : Nat} (ho : holeOf t hs p = some h) : mPart t l hs b (n + 1) p = srcL l (b h).1 (b h).2 := by rw [mPart, ho]
theorem mp_none {n p : Nat} (ho : holeOf t hs p = none) (hp : p < t.length) : mPart t l hs b (n + 1) p = (((t[p]).1, (cntP ((mKids t l hs b n (p + 1) (endB t p)).map (·.1)) : Int), (t[p]).2.2), -1) :: mKids t l hs b n (p + 1) (endB t p) := by
 rw [mPart, ho, List.getElem?_eq_getElem hp]
theorem mk_end {n p : Nat} : mKids t l hs b (n + 1) p p = [] := by rw [mKids, if_pos rfl]
theorem mk_next {n p pend : Nat} (h : p ≠ pend) : mKids t l hs b (n + 1) p pend = mPart t l hs b n p ++ mKids t l hs b n (endB t p) pend := by rw [mKids, if_neg h]
theorem mPart_rows (hb : ∀ h, (b h).1 ≤ (b h).2 ∧ (b h).2 ≤ l.length) (hv : ∀ h, ∃ ts, rowsB (piece l (b h).1 (b h).2) = some ts) (n p : Nat) : ∃ ts, rowsB ((mPart t l hs b n p).map (·.1)) = some ts := by
 rw [(m_inst t l hs b hb n).1 p]
 obtain ⟨ts, h, _⟩ := (i_rows t hs (fun h => piece l (b h).1 (b h).2) hv n).1 p
 exact ⟨ts, h⟩
end
def intsV (xs : List Int) : List Go.Value := xs.map (Go.Value.int .i64)
end Go.Proofs.YtmklemelgdilkaaDoor
namespace Go.Proofs.YtmklemelgdilkaaDoor
set_option linter.all false

end Go.Proofs.YtmklemelgdilkaaDoor
namespace Go.Proofs.YtmklemelgdilkaaDoor
set_option linter.all false

theorem treesZ_of {l : List Prt} {ts : List Nat} (h : rowsB l = some ts) : treesZ l = (ts.length : Int) := by unfold treesZ; rw [h]
section
variable (t : List Prt) (hs : List Hl) (b : Nat → Nat × Nat)
end
section
variable {t l : List Prt} {hs : List Hl} {b : Nat → Nat × Nat}
theorem pt_small (hl : SmallL l) (i : Nat) : (ptAt l i).1 < 256 ∧ (ptAt l i).2.2.size ≤ 1048576 := by
 unfold ptAt
 by_cases h : i < l.length
 ·have := hl.2 _ (List.getElem_mem h)
  simpa [List.getD_eq_getElem?_getD, h] using this
 ·rw [List.getD_eq_getElem?_getD, List.getElem?_eq_none (by omega)]
  decide
theorem m_small (ht : SmallL t) (hl : SmallL l) : ∀ n, (∀ p, ∀ x ∈ mPart t l hs b n p, x.1.1 < 256 ∧ x.1.2.2.size ≤ 1048576) ∧ (∀ p pend, ∀ x ∈ mKids t l hs b n p pend, x.1.1 < 256 ∧ x.1.2.2.size ≤ 1048576)
 | 0 => ⟨(fun p x hx => by rw [mPart] at hx; cases hx), (fun p pend x hx => by rw [mKids] at hx; cases hx)⟩
 | n + 1 => by
  obtain ⟨h1, h2⟩ := m_small ht hl n
  constructor
  ·intro p x hx
   rw [mPart] at hx
   cases ho : holeOf t hs p with
   | some h =>
    rw [ho] at hx
    simp only [] at hx
    unfold srcL at hx
    obtain ⟨k, _, rfl⟩ := List.mem_map.1 hx
    exact pt_small hl k
   | none =>
    rw [ho] at hx
    simp only [] at hx
    cases hp : t[p]? with
    | none => rw [hp] at hx; cases hx
    | some a =>
     rw [hp] at hx
     simp only [] at hx
     rcases List.mem_cons.1 hx with rfl | hx
     ·obtain ⟨hp', rfl⟩ := List.getElem?_eq_some_iff.1 hp
      have := ht.2 _ (List.getElem_mem hp')
      exact this
     ·exact h2 _ _ x hx
  ·intro p pend x hx
   rw [mKids] at hx
   split at hx
   ·cases hx
   ·rcases List.mem_append.1 hx with hx | hx
    ·exact h1 _ x hx
    ·exact h2 _ _ x hx
end
end Go.Proofs.YtmklemelgdilkaaDoor
namespace Go.Proofs.YtmklemelgdilkaaDoor
set_option linter.all false

def UpInv (l : List Prt) : List (Nat × Int) → Nat → Prop
 | [], pos => pos = l.length ∨ pos = 0
 | (o, c) :: st, pos => o < pos ∧ 0 ≤ c ∧ advT l c.toNat pos (endB l o) = some (endB l o) ∧ endB l o ≤ l.length ∧ (∀ j, o < j → j < pos → endB l j ≤ pos) ∧ UpInv l st (endB l o)
theorem UpInv.pop {l : List Prt} {o : Nat} {st : List (Nat × Int)} {pos : Nat} (h : UpInv l ((o, 0) :: st) pos) : UpInv l st pos := by
 obtain ⟨_, _, h3, _, _, h6⟩ := h
 rw [show (0 : Int).toNat = 0 by rfl, advT] at h3
 have : pos = endB l o := by simpa using h3
 rw [this]; exact h6
theorem UpInv.top {l : List Prt} {us : List Nat} (hl : rowsB l = some us) {o : Nat} {c : Int} {st : List (Nat × Int)} {pos : Nat} (h : UpInv l ((o, c) :: st) pos) (hc : c ≠ 0) : upN l pos = (o : Int) ∧ o < pos ∧ pos < endB l o := by
 obtain ⟨h1, h2, h3, h4, h5, _⟩ := h
 have hlt : pos < endB l o := by
  obtain ⟨k, hk⟩ : ∃ k, c.toNat = k + 1 := ⟨c.toNat - 1, by omega⟩
  rw [hk, advT] at h3
  split at h3
  ·assumption
  ·cases h3
 exact ⟨up_of hl (by omega) h1 hlt h5, h1, hlt⟩
theorem UpInv.push {l : List Prt} {us : List Nat} (hl : rowsB l = some us) {o : Nat} {c : Int} {st : List (Nat × Int)} {i : Nat} (h : UpInv l ((o, c) :: st) i) (hc : c ≠ 0) (hi : i < l.length) : UpInv l ((i, (l[i]).2.1) :: (o, c - 1) :: st) (i + 1) := by
 obtain ⟨g1, g2, g3⟩ := h.top hl hc
 obtain ⟨h1, h2, h3, h4, h5, h6⟩ := h
 obtain ⟨q, k1, k2⟩ := adv_kids hl hi
 have hg := endB_gt hl hi
 refine ⟨by omega, by omega, by rw [k1]; exact k2, hg.2, fun j a b => by omega, by omega, by omega, ?_, h4, fun j a b => ?_, h6⟩
 ·obtain ⟨k, hk⟩ : ∃ k, c.toNat = k + 1 := ⟨c.toNat - 1, by omega⟩
  rw [hk, advT, if_pos g3] at h3
  rw [show (c - 1).toNat = k by omega]; exact h3
 ·rcases Nat.lt_or_ge j i with a1 | a1
  ·have := h5 j a a1; omega
  ·exact end_within hl hi a1 b
theorem UpInv.root {l : List Prt} (hl : wellB l = true) (h0 : 0 < l.length) : UpInv l [(0, (l[0]).2.1)] 1 := by
 have hw := well_rows hl
 have hz := well_zero hl
 obtain ⟨q, k1, k2⟩ := adv_kids hw h0
 exact ⟨by omega, by omega, by rw [k1]; exact k2, by omega, fun j a b => by omega, Or.inl hz.2⟩
theorem UpInv.len {l : List Prt} : ∀ {st : List (Nat × Int)} {pos : Nat}, UpInv l st pos → ∀ x ∈ st, x.1 < l.length ∧ 0 ≤ x.2
 | [], _, _, x, hx => by cases hx
 | (o, c) :: st, pos, h, x, hx => by
  obtain ⟨h1, h2, h3, h4, h5, h6⟩ := h
  rcases List.mem_cons.1 hx with rfl | hx
  ·refine ⟨?_, h2⟩
   show o < l.length
   apply Classical.byContradiction
   intro hn
   have : endB l o = o := by
    unfold endB headSize
    rw [List.drop_eq_nil_of_le (by omega), rowsB_nil]; rfl
   cases hc : c.toNat with
   | zero =>
    rw [hc, advT] at h3
    have := Option.some.inj h3
    omega
   | succ k =>
    rw [hc, advT] at h3
    split at h3
    ·omega
    ·cases h3
  ·exact UpInv.len h6 x hx
end Go.Proofs.YtmklemelgdilkaaDoor
namespace Go.Proofs.YtmklemelgdilkaaDoor
set_option linter.all false
attribute [local irreducible] Calls
open Go.RowKit

def kindU (l : List Prt) (u : Int) : Int := match kindI l u with
 | some k => (k : Int)
 | none => 69
theorem upN_ge (l : List Prt) (i : Nat) : -1 ≤ upN l i := by
 unfold upN
 have key : ∀ k, -1 ≤ upI l i k := by
  intro k
  induction k with
  | zero => rw [upI]; omega
  | succ k ih => rw [upI]; split <;> omega
 exact key i
theorem upN_less (l : List Prt) (i : Nat) : upN l i < (i : Int) := by
 unfold upN
 have key : ∀ k, upI l i k < (k : Int) := by
  intro k
  induction k with
  | zero => rw [upI]; omega
  | succ k ih => rw [upI]; split <;> omega
 exact key i
set_option maxRecDepth 100000 in
set_option maxHeartbeats 8000000 in
theorem rule_kind (l : List Prt) (hl : l.length ≤ 1000000000) (v : Value) (u : Int) (h1 : -1 ≤ u) (h2 : u < l.length) (w : World) (hr : PartRow w v l) :
  Calls Tryd.prog 56 #[v, .int .i64 u] w fun e w' => e = .returned (.int .u8 (kindU l u)) ∧ w = w' := by
 have HQ : RowKit.Hid (∀ x, kindU l u = x → (fun (e : Ending) w' => e = .returned (.int .u8 (kindU l u)) ∧ w = w') (.returned (.int .u8 x)) w) := Lib.hid fun x h => ⟨by rw [h], rfl⟩
 generalize (fun (e : Ending) w' => e = .returned (.int .u8 (kindU l u)) ∧ w = w') = Q at *
 obtain ⟨va, vcap, rfl, hvc⟩ := hr.slice
 by_cases hu : u < 0
 ·have HX := Lib.hid (HQ.out 69 (by unfold kindU kindI; rw [if_pos hu]))
  go_enter Tryd.func56, Tryd.ntmps56
  go_wp2_with fail
  exact HX.out
 ·obtain ⟨k, rfl⟩ : ∃ k : Nat, u = (k : Int) := ⟨u.toNat, by omega⟩
  have hk : k < l.length := by omega
  obtain ⟨b, off, rfl, _, _, hbl, hcell⟩ := hr.at (Below.refl _ _) (show 0 < l.length by omega)
  have c0 := (hcell k hk).1
  have hk0 : (0 : Int) ≤ (k : Int) := by omega
  have hkl : (k : Int) < l.length := by omega
  have hneg : ¬ (k : Int) < 0 := by omega
  have HX := Lib.hid (HQ.out ((l[k]).1 : Int) (by unfold kindU kindI; rw [if_neg hneg, Int.toNat_natCast, List.getElem?_eq_getElem hk]; rfl))
  clear hcell hr HQ
  generalize (l[k]).1 = x at *
  go_enter Tryd.func56, Tryd.ntmps56
  go_wp2_with fail
  exact HX.out
end Go.Proofs.YtmklemelgdilkaaDoor
namespace Go.Proofs.YtmklemelgdilkaaDoor
set_option linter.all false

def dupB (r : RuleM) (k : Nat) (s : ByteArray) : Bool := (r.holes.take k).any fun g => decide (g.1 = s)
def seenM (hs : List Hl) (x : ByteArray) : Option Int := if hs.any (fun g => decide (g.1 = x)) = true then some 1 else none
theorem seenM_put (hs : List Hl) (h : Hl) : (fun x => if x = h.1 then some 1 else seenM hs x) = seenM (hs ++ [h]) := by
 funext x
 unfold seenM
 rw [List.any_append]
 by_cases e : x = h.1
 ·subst e; simp
 ·rw [if_neg e]
  have : (List.any [h] fun g => decide (g.1 = x)) = false := by simp; exact fun e2 => e e2.symm
  rw [this, Bool.or_false]
theorem take_snoc {α : Type} {l : List α} {k : Nat} (hk : k < l.length) : l.take (k + 1) = l.take k ++ [l[k]] := by
 rw [List.take_add_one, List.getElem?_eq_getElem hk]; rfl
theorem holeB_eq {r : RuleM} {k : Nat} (hk : k < r.holes.length) : holeB r k = (!dupB r k (r.holes[k]).1 && (name (r.holes[k]).1 && (decide (1 ≤ (r.holes[k]).2 ∧ (r.holes[k]).2 ≤ 7) && (decide (1 ≤ placesZ r.fnd r.holes[k]) && decide (0 ≤ placesZ r.by' r.holes[k]))))) := by
 unfold holeB dupB
 rw [List.getElem?_eq_getElem hk]
theorem ruleZ_10 {r : RuleM} (h : ruleTop r = false) : ruleZ r = 10 := by unfold ruleZ; rw [if_pos h]
theorem ruleZ_14 {r : RuleM} (h : ruleTop r = true) (c : 16 < r.holes.length ∨ 2 < sevN r.holes) : ruleZ r = 14 := by unfold ruleZ; rw [if_neg (by simp [h]), if_pos c]
theorem ruleZ_11 {r : RuleM} (h : ruleTop r = true) (c1 : r.holes.length ≤ 16) (c2 : sevN r.holes ≤ 2) {k : Nat} (hk : k < r.holes.length) (hb : holeB r k = false) : ruleZ r = 11 := by
 unfold ruleZ
 rw [if_neg (by simp [h]), if_neg (by omega), if_neg (fun hh => by have := hh k hk; rw [hb] at this; cases this)]
theorem ruleZ_0 {r : RuleM} (h : ruleTop r = true) (c1 : r.holes.length ≤ 16) (c2 : sevN r.holes ≤ 2) (hh : ∀ i, i < r.holes.length → holeB r i = true) : ruleZ r = 0 := by
 unfold ruleZ
 rw [if_neg (by simp [h]), if_neg (by omega), if_pos hh]
theorem sevN_take {hs : List Hl} {k : Nat} (hk : k < hs.length) : sevN (hs.take (k + 1)) = sevN (hs.take k) + (if isSev (hs[k]).2 = true then 1 else 0) := by
 unfold sevN
 rw [take_snoc hk, List.filter_append, List.length_append]
 by_cases h : isSev (hs[k]).2 = true
 ·simp [h]
 ·simp [h]
theorem sevN_all (hs : List Hl) : sevN (hs.take hs.length) = sevN hs := by rw [List.take_length]
theorem sevN_le (hs : List Hl) : sevN hs ≤ hs.length := List.length_filter_le _ _
end Go.Proofs.YtmklemelgdilkaaDoor
namespace Go.Proofs.YtmklemelgdilkaaDoor
set_option linter.all false
attribute [local irreducible] Calls
open Go.RowKit

def partA (p : Prt) : Value := .agg #[.int .u8 (p.1 : Int), .int .i64 p.2.1, .string p.2.2]
def lvl (i : Nat) : List (List UInt8) := match i with
 | 0 => wL1
 | 1 => wL2
 | 2 => wL3
 | 3 => wL4
 | _ => wL5
theorem lvl_fine (i : Nat) : ∀ v ∈ lvl i, (32 : UInt8) ∉ v ∧ v ≠ [] := by
 match i with
 | 0 => decide
 | 1 => decide
 | 2 => decide
 | 3 => decide
 | n + 4 => show ∀ v ∈ wL5, _; decide
theorem lvl_has (i : Nat) (s : ByteArray) : (decide (s.toList ≠ []) && (!Lib.contains s.toList [32] && Lib.contains (jn (lvl i)) (32 :: (s.toList ++ [32])))) = decide (s.toList ∈ lvl i) := among_jn (lvl_fine i)
theorem lvW_of (s : ByteArray) : lvW s = if s.toList ∈ lvl 0 then 1 else if s.toList ∈ lvl 1 then 2 else if s.toList ∈ lvl 2 then 3 else if s.toList ∈ lvl 3 then 4 else if s.toList ∈ lvl 4 then 5 else 1 := rfl
end Go.Proofs.YtmklemelgdilkaaDoor
namespace Go.Proofs.YtmklemelgdilkaaDoor
set_option linter.all false
open Go.RowKit

structure HeldM (w : World) : Prop where
 T : Tabs w
 M : MaxC w
theorem HeldM.below {w w' : World} (h : HeldM w) (hb : Below w.heap.size w w') : HeldM w' := ⟨h.T.below hb, h.M.below hb⟩
@[irreducible] def AnswersM (w : World) (e : Ending) (w' : World) : Prop := e = .returned (.bool true) ∧ Below w.heap.size w w'
theorem AnswersM.mk {w w' : World} (h : Below w.heap.size w w') : AnswersM w (.returned (.bool true)) w' := by unfold AnswersM; exact ⟨rfl, h⟩
theorem AnswersM.out {w w' : World} {e : Ending} (h : AnswersM w e w') : e = .returned (.bool true) ∧ Below w.heap.size w w' := by unfold AnswersM at h; exact h
end Go.Proofs.YtmklemelgdilkaaDoor
