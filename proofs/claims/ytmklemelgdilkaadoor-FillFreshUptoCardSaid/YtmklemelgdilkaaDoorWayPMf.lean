/- Layer 17 in plain Lean: the order of the holes for several, step by step; the numbers that are tried, as a row. -/
import Derived.Test.YtmklemelgdilkaaDoorRulePMf
import Derived.Test.YtmklemelgdilkaaDoorGuardPMf
import Derived.Test.YtmklemelgdilkaaDoorTermMf
import Derived.Test.YtmklemelgdilkaaDoorCheckBMf
import Derived.Test.YtmklemelgdilkaaDoorTermSameMf
import Derived.Test.YtmklemelgdilkaaDoorQuoted2Mf
namespace Go.Proofs.YtmklemelgdilkaaDoor
set_option linter.all false

end Go.Proofs.YtmklemelgdilkaaDoor
namespace Go.Proofs.YtmklemelgdilkaaDoor
set_option linter.all false

structure KidSeq (f : List Prt) (p q : Nat) (kp : Nat → Nat) : Prop where
 len : (kidsB f p).length = q
 get : ∀ c, c < q → (kidsB f p)[c]? = some (kp c)
 lt : ∀ c, c < q → kp c < f.length
 nx : ∀ c, c < q → endB f (kp c) = kp (c + 1)
 up : ∀ c, c < q → kp c < kp (c + 1)
 le : ∀ c, c ≤ q → kp c ≤ endB f p
 z : kp 0 = p + 1
 e : kp q = endB f p
 n : (q : Int) ≤ f.length
theorem kid_seq {f : List Prt} {us : List Nat} (h : rowsB f = some us) {p : Nat} (hp : p < f.length) : ∃ q kp, KidSeq f p q kp := by
 obtain ⟨ts, q, f1, f2, f3, f4, f5⟩ := kids_facts h hp
 have hl := (rowsB_sum f1).2.1
 rw [List.length_drop] at hl
 refine ⟨q, fun c => p + 1 + (ts.take c).sum, ⟨?_, fun c hc => ?_, fun c hc => ?_, fun c hc => ?_, fun c hc => ?_, fun c hc => ?_, by simp, f4.symm, by omega⟩⟩
 ·rw [f5, List.length_take, starts_length]; omega
 ·obtain ⟨_, _, g3, _⟩ := kid_step h f1 f3 hc
  have e1 : (starts (p + 1) ts)[c]? = some (p + 1 + (ts.take c).sum) := by
   have e2 : ((starts (p + 1) ts).take (c + 1))[c]? = some (p + 1 + (ts.take c).sum) := by
    rw [g3, List.getElem?_append_right (by rw [List.length_take, starts_length]; omega), List.length_take, starts_length, Nat.min_eq_left (by omega), Nat.sub_self]
    rfl
   rw [List.getElem?_take_of_lt (by omega)] at e2
   exact e2
  rw [f5, List.getElem?_take_of_lt hc, e1]
 ·exact (kid_step h f1 f3 hc).1
 ·exact (kid_step h f1 f3 hc).2.1
 ·have := (kid_step h f1 f3 hc).2.2.2.2.1
  show p + 1 + _ < p + 1 + _
  omega
 ·rw [f4]
  have := sum_take_add ts c (q - c)
  rw [show c + (q - c) = q by omega] at this
  show p + 1 + _ ≤ p + 1 + _
  omega
section
variable {f l : List Prt} {hs : List Hl} {L : Nat → Nat}
end
end Go.Proofs.YtmklemelgdilkaaDoor
namespace Go.Proofs.YtmklemelgdilkaaDoor
set_option linter.all false

def bOf (bs : List Bnd) (h : Nat) : Nat × Nat := match bs[h]? with
 | some x => (x.2.1.toNat, x.2.2.toNat)
 | none => (0, 0)
def BindsIn (bs : List Bnd) (l : List Prt) : Prop := ∀ x ∈ bs, 0 ≤ x.2.1 ∧ x.2.1 ≤ x.2.2 ∧ x.2.2 ≤ l.length
theorem bOf_at {bs : List Bnd} {h : Nat} (hh : h < bs.length) : bOf bs h = ((bs[h]).2.1.toNat, (bs[h]).2.2.toNat) := by unfold bOf; rw [List.getElem?_eq_getElem hh]
theorem bOf_in {bs : List Bnd} {l : List Prt} (hb : BindsIn bs l) (h : Nat) : (bOf bs h).1 ≤ (bOf bs h).2 ∧ (bOf bs h).2 ≤ l.length := by
 by_cases hh : h < bs.length
 ·have := hb _ (List.getElem_mem hh)
  rw [bOf_at hh]
  simp only []
  omega
 ·unfold bOf
  rw [List.getElem?_eq_none (by omega)]
  simp
section
variable {t l : List Prt} {hs : List Hl} {b : Nat → Nat × Nat}
theorem sizeS_le {m : Nat} (hb : ∀ h, (b h).2 - (b h).1 ≤ m) : ∀ n p, sizeS t hs b n p ≤ n * (m + 1)
 | 0, p => by rw [sizeS]; omega
 | n + 1, p => by
  rw [sizeS, Nat.add_mul]
  split
  ·cases holeOf t hs p with
   | some h =>
    simp only []
    have h1 := hb h
    have h2 := sizeS_le hb n (if kindAt t p = 50 then p + 2 else p + 1)
    omega
   | none =>
    simp only []
    have h2 := sizeS_le hb n (p + 1)
    omega
  ·omega
theorem mPart_len (H : HolesOK t hs) {m : Nat} (hb : ∀ h, (b h).2 - (b h).1 ≤ m) {n p : Nat} (hp : p < t.length) (hn : 2 * (endB t p - p) ≤ n) : (mPart t l hs b n p).length ≤ t.length * (m + 1) := by
 have h1 := (m_size t l hs b H n).1 p hp hn t.length (by omega)
 have h2 := sizeS_le (t := t) (hs := hs) hb t.length p
 omega
theorem mp_hole {n p h : Nat} (ho : holeOf t hs p = some h) : mPart t l hs b (n + 1) p = srcL l (b h).1 (b h).2 := by rw [mPart, ho]
theorem mp_none {n p : Nat} (ho : holeOf t hs p = none) (hp : p < t.length) : mPart t l hs b (n + 1) p = (((t[p]).1, (cntP ((mKids t l hs b n (p + 1) (endB t p)).map (·.1)) : Int), (t[p]).2.2), -1) :: mKids t l hs b n (p + 1) (endB t p) := by
 rw [mPart, ho, List.getElem?_eq_getElem hp]
theorem mk_end {n p : Nat} : mKids t l hs b (n + 1) p p = [] := by rw [mKids, if_pos rfl]
theorem mk_next {n p pend : Nat} (h : p ≠ pend) : mKids t l hs b (n + 1) p pend = mPart t l hs b n p ++ mKids t l hs b n (endB t p) pend := by rw [mKids, if_neg h]
theorem mPart_rows (hb : ∀ h, (b h).1 ≤ (b h).2 ∧ (b h).2 ≤ l.length) (hv : ∀ h, ∃ ts, rowsB (piece l (b h).1 (b h).2) = some ts) (n p : Nat) : ∃ ts, rowsB ((mPart t l hs b n p).map (·.1)) = some ts := by
 rw [(m_inst t l hs b hb n).1 p]
 obtain ⟨ts, h, _⟩ := (i_rows t hs (fun h => piece l (b h).1 (b h).2) hv n).1 p
 exact ⟨ts, h⟩
end
def intsV (xs : List Int) : List Go.Value := xs.map (Go.Value.int .i64)
end Go.Proofs.YtmklemelgdilkaaDoor
namespace Go.Proofs.YtmklemelgdilkaaDoor
set_option linter.all false
open Go.RowKit

end Go.Proofs.YtmklemelgdilkaaDoor
namespace Go.Proofs.YtmklemelgdilkaaDoor
set_option linter.all false

end Go.Proofs.YtmklemelgdilkaaDoor
namespace Go.Proofs.YtmklemelgdilkaaDoor
set_option linter.all false

def UpInv (l : List Prt) : List (Nat × Int) → Nat → Prop
 | [], pos => pos = l.length ∨ pos = 0
 | (o, c) :: st, pos => o < pos ∧ 0 ≤ c ∧ advT l c.toNat pos (endB l o) = some (endB l o) ∧ endB l o ≤ l.length ∧ (∀ j, o < j → j < pos → endB l j ≤ pos) ∧ UpInv l st (endB l o)
theorem UpInv.pop {l : List Prt} {o : Nat} {st : List (Nat × Int)} {pos : Nat} (h : UpInv l ((o, 0) :: st) pos) : UpInv l st pos := by
 obtain ⟨_, _, h3, _, _, h6⟩ := h
 rw [show (0 : Int).toNat = 0 by rfl, advT] at h3
 have : pos = endB l o := by simpa using h3
 rw [this]; exact h6
theorem UpInv.top {l : List Prt} {us : List Nat} (hl : rowsB l = some us) {o : Nat} {c : Int} {st : List (Nat × Int)} {pos : Nat} (h : UpInv l ((o, c) :: st) pos) (hc : c ≠ 0) : upN l pos = (o : Int) ∧ o < pos ∧ pos < endB l o := by
 obtain ⟨h1, h2, h3, h4, h5, _⟩ := h
 have hlt : pos < endB l o := by
  obtain ⟨k, hk⟩ : ∃ k, c.toNat = k + 1 := ⟨c.toNat - 1, by omega⟩
  rw [hk, advT] at h3
  split at h3
  ·assumption
  ·cases h3
 exact ⟨up_of hl (by omega) h1 hlt h5, h1, hlt⟩
theorem UpInv.push {l : List Prt} {us : List Nat} (hl : rowsB l = some us) {o : Nat} {c : Int} {st : List (Nat × Int)} {i : Nat} (h : UpInv l ((o, c) :: st) i) (hc : c ≠ 0) (hi : i < l.length) : UpInv l ((i, (l[i]).2.1) :: (o, c - 1) :: st) (i + 1) := by
 obtain ⟨g1, g2, g3⟩ := h.top hl hc
 obtain ⟨h1, h2, h3, h4, h5, h6⟩ := h
 obtain ⟨q, k1, k2⟩ := adv_kids hl hi
 have hg := endB_gt hl hi
 refine ⟨by omega, by omega, by rw [k1]; exact k2, hg.2, fun j a b => by omega, by omega, by omega, ?_, h4, fun j a b => ?_, h6⟩
 ·obtain ⟨k, hk⟩ : ∃ k, c.toNat = k + 1 := ⟨c.toNat - 1, by omega⟩
  rw [hk, advT, if_pos g3] at h3
  rw [show (c - 1).toNat = k by omega]; exact h3
 ·rcases Nat.lt_or_ge j i with a1 | a1
  ·have := h5 j a a1; omega
  ·exact end_within hl hi a1 b
theorem UpInv.root {l : List Prt} (hl : wellB l = true) (h0 : 0 < l.length) : UpInv l [(0, (l[0]).2.1)] 1 := by
 have hw := well_rows hl
 have hz := well_zero hl
 obtain ⟨q, k1, k2⟩ := adv_kids hw h0
 exact ⟨by omega, by omega, by rw [k1]; exact k2, by omega, fun j a b => by omega, Or.inl hz.2⟩
theorem UpInv.len {l : List Prt} : ∀ {st : List (Nat × Int)} {pos : Nat}, UpInv l st pos → ∀ x ∈ st, x.1 < l.length ∧ 0 ≤ x.2
 | [], _, _, x, hx => by cases hx
 | (o, c) :: st, pos, h, x, hx => by
  obtain ⟨h1, h2, h3, h4, h5, h6⟩ := h
  rcases List.mem_cons.1 hx with rfl | hx
  ·refine ⟨?_, h2⟩
   show o < l.length
   apply Classical.byContradiction
   intro hn
   have : endB l o = o := by
    unfold endB headSize
    rw [List.drop_eq_nil_of_le (by omega), rowsB_nil]; rfl
   cases hc : c.toNat with
   | zero =>
    rw [hc, advT] at h3
    have := Option.some.inj h3
    omega
   | succ k =>
    rw [hc, advT] at h3
    split at h3
    ·omega
    ·cases h3
  ·exact UpInv.len h6 x hx
end Go.Proofs.YtmklemelgdilkaaDoor
namespace Go.Proofs.YtmklemelgdilkaaDoor
set_option linter.all false
attribute [local irreducible] Calls
open Go.RowKit

def kindU (l : List Prt) (u : Int) : Int := match kindI l u with
 | some k => (k : Int)
 | none => 69
theorem upN_ge (l : List Prt) (i : Nat) : -1 ≤ upN l i := by
 unfold upN
 have key : ∀ k, -1 ≤ upI l i k := by
  intro k
  induction k with
  | zero => rw [upI]; omega
  | succ k ih => rw [upI]; split <;> omega
 exact key i
theorem upN_less (l : List Prt) (i : Nat) : upN l i < (i : Int) := by
 unfold upN
 have key : ∀ k, upI l i k < (k : Int) := by
  intro k
  induction k with
  | zero => rw [upI]; omega
  | succ k ih => rw [upI]; split <;> omega
 exact key i
set_option maxRecDepth 100000 in
set_option maxHeartbeats 8000000 in
theorem rule_kind (l : List Prt) (hl : l.length ≤ 1000000000) (v : Value) (u : Int) (h1 : -1 ≤ u) (h2 : u < l.length) (w : World) (hr : PartRow w v l) :
  Calls Tryd.prog 56 #[v, .int .i64 u] w fun e w' => e = .returned (.int .u8 (kindU l u)) ∧ w = w' := by
 have HQ : RowKit.Hid (∀ x, kindU l u = x → (fun (e : Ending) w' => e = .returned (.int .u8 (kindU l u)) ∧ w = w') (.returned (.int .u8 x)) w) := Lib.hid fun x h => ⟨by rw [h], rfl⟩
 generalize (fun (e : Ending) w' => e = .returned (.int .u8 (kindU l u)) ∧ w = w') = Q at *
 obtain ⟨va, vcap, rfl, hvc⟩ := hr.slice
 by_cases hu : u < 0
 ·have HX := Lib.hid (HQ.out 69 (by unfold kindU kindI; rw [if_pos hu]))
  go_enter Tryd.func56, Tryd.ntmps56
  go_wp2_with fail
  exact HX.out
 ·obtain ⟨k, rfl⟩ : ∃ k : Nat, u = (k : Int) := ⟨u.toNat, by omega⟩
  have hk : k < l.length := by omega
  obtain ⟨b, off, rfl, _, _, hbl, hcell⟩ := hr.at (Below.refl _ _) (show 0 < l.length by omega)
  have c0 := (hcell k hk).1
  have hk0 : (0 : Int) ≤ (k : Int) := by omega
  have hkl : (k : Int) < l.length := by omega
  have hneg : ¬ (k : Int) < 0 := by omega
  have HX := Lib.hid (HQ.out ((l[k]).1 : Int) (by unfold kindU kindI; rw [if_neg hneg, Int.toNat_natCast, List.getElem?_eq_getElem hk]; rfl))
  clear hcell hr HQ
  generalize (l[k]).1 = x at *
  go_enter Tryd.func56, Tryd.ntmps56
  go_wp2_with fail
  exact HX.out
end Go.Proofs.YtmklemelgdilkaaDoor
namespace Go.Proofs.YtmklemelgdilkaaDoor
set_option linter.all false
attribute [local irreducible] Calls
open Go.RowKit

def partA (p : Prt) : Value := .agg #[.int .u8 (p.1 : Int), .int .i64 p.2.1, .string p.2.2]
def lvl (i : Nat) : List (List UInt8) := match i with
 | 0 => wL1
 | 1 => wL2
 | 2 => wL3
 | 3 => wL4
 | _ => wL5
theorem lvl_fine (i : Nat) : ∀ v ∈ lvl i, (32 : UInt8) ∉ v ∧ v ≠ [] := by
 match i with
 | 0 => decide
 | 1 => decide
 | 2 => decide
 | 3 => decide
 | n + 4 => show ∀ v ∈ wL5, _; decide
theorem lvl_has (i : Nat) (s : ByteArray) : (decide (s.toList ≠ []) && (!Lib.contains s.toList [32] && Lib.contains (jn (lvl i)) (32 :: (s.toList ++ [32])))) = decide (s.toList ∈ lvl i) := among_jn (lvl_fine i)
theorem lvW_of (s : ByteArray) : lvW s = if s.toList ∈ lvl 0 then 1 else if s.toList ∈ lvl 1 then 2 else if s.toList ∈ lvl 2 then 3 else if s.toList ∈ lvl 3 then 4 else if s.toList ∈ lvl 4 then 5 else 1 := rfl
end Go.Proofs.YtmklemelgdilkaaDoor
namespace Go.Proofs.YtmklemelgdilkaaDoor
set_option linter.all false
open Go.RowKit

structure HeldM (w : World) : Prop where
 T : Tabs w
 M : MaxC w
theorem HeldM.below {w w' : World} (h : HeldM w) (hb : Below w.heap.size w w') : HeldM w' := ⟨h.T.below hb, h.M.below hb⟩
@[irreducible] def AnswersM (w : World) (e : Ending) (w' : World) : Prop := e = .returned (.bool true) ∧ Below w.heap.size w w'
theorem AnswersM.mk {w w' : World} (h : Below w.heap.size w w') : AnswersM w (.returned (.bool true)) w' := by unfold AnswersM; exact ⟨rfl, h⟩
theorem AnswersM.out {w w' : World} {e : Ending} (h : AnswersM w e w') : e = .returned (.bool true) ∧ Below w.heap.size w w' := by unfold AnswersM at h; exact h
end Go.Proofs.YtmklemelgdilkaaDoor
