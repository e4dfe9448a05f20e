/- A store into a map by its run equation. -/
import Derived.Test.YtlkheofphafofaaGreatDoorRulesVMd
import Derived.Test.YtlkheofphafofaaGreatDoorCheckBMd
import Derived.Test.YtlkheofphafofaaGreatDoorSeekMMd
namespace Go.Proofs.YtlkheofphafofaaGreatDoor
set_option linter.all false
theorem wpList_mapUpdate_run {P : Program} {w w' : World} {ops : Array Oper} {rest : List Oper} {o : Oper} {a : Act} {Q : Exit → Act → World → Prop}
  (hg : o.guard = none) (m x v : Operand) (t : TypeId) {mv key val : Value} (hrun : (Instr.mapUpdate t mv key val).run P w = .ok () w') (hop : o.op = Op.mapUpdate t m x v)
  (hm : a.eval m = mv) (hx : a.eval x = key) (hv : a.eval v = val) (hK : wpList P ops Q rest (a.put o.dst undef) w') : wpList P ops Q (o :: rest) a w := by
 refine wpList_plain hg fun K' hK' => ?_
 unfold Oper.wp
 simp [execOp, hop, hm, hx, hv, hrun, Result.andThen]
 exact hK' _ _ hK
end Go.Proofs.YtlkheofphafofaaGreatDoor
namespace Go.Proofs.YtlkheofphafofaaGreatDoor
set_option linter.all false

abbrev Mch := Nat × Nat × List Bnd
end Go.Proofs.YtlkheofphafofaaGreatDoor
namespace Go.Proofs.YtlkheofphafofaaGreatDoor
set_option linter.all false

end Go.Proofs.YtlkheofphafofaaGreatDoor
namespace Go.Proofs.YtlkheofphafofaaGreatDoor
set_option linter.all false

def wL1 : List (List UInt8) := [[124, 124]]
def wL2 : List (List UInt8) := [[38, 38]]
def wL3 : List (List UInt8) := [[61, 61], [33, 61], [60], [60, 61], [62], [62, 61]]
def wL4 : List (List UInt8) := [[43], [45], [124], [94]]
def wL5 : List (List UInt8) := [[42], [47], [37], [60, 60], [62, 62], [38], [38, 94]]
def lvW (w : ByteArray) : Nat := if w.toList ∈ wL1 then 1 else if w.toList ∈ wL2 then 2 else if w.toList ∈ wL3 then 3 else if w.toList ∈ wL4 then 4 else if w.toList ∈ wL5 then 5 else 1
def levelZ (p : Prt) : Nat := if p.1 = 36 ∨ p.1 = 35 then 6 else if p.1 = 37 then lvW p.2.2 else 7
def looseZ (p : Prt) (nth : Nat) (kid : Prt) : Bool :=
 if p.1 = 37 then (decide (nth = 0) && decide (levelZ kid < levelZ p)) || (decide (nth = 1) && decide (levelZ kid ≤ levelZ p))
 else if p.1 = 35 ∨ p.1 = 36 then decide (levelZ kid < 6)
 else if 29 ≤ p.1 ∧ p.1 ≤ 34 then decide (nth = 0) && decide (levelZ kid < 7)
 else if p.1 = 61 then decide (nth = 2) && decide (levelZ kid < 7)
 else false
abbrev PN := Prt × Int
def paren : PN := ((28, 1, ByteArray.empty), -1)
def brk (p : Prt) (nth : Nat) (kid : Prt) : List PN := if looseZ p nth kid then [paren] else []
section
variable (l : List Prt) (from' : List Int)
def pnAt (i : Nat) : PN := (l.getD i (0, 0, ByteArray.empty), from'.getD i 0)
def ptAt (i : Nat) : Prt := l.getD i (0, 0, ByteArray.empty)
mutual
def gPart : Nat → Nat → List PN
 | 0, _ => []
 | n + 1, i => pnAt l from' i :: gKids n (ptAt l i) 0 (i + 1) (endB l i)
def gKids : Nat → Prt → Nat → Nat → Nat → List PN
 | 0, _, _, _, _ => []
 | n + 1, p, nth, k, stop => if k = stop then [] else brk p nth (ptAt l k) ++ (gPart n k ++ gKids n p (nth + 1) (endB l k) stop)
end
variable {l}
variable (l)
end
section
variable (l : List Prt) (from' : List Int)
end
end Go.Proofs.YtlkheofphafofaaGreatDoor
namespace Go.Proofs.YtlkheofphafofaaGreatDoor
set_option linter.all false

section
variable (t l : List Prt) (hs : List Hl) (b : Nat → Nat × Nat)
def srcL (x y : Nat) : List PN := (List.range' x (y - x)).map fun i => (ptAt l i, (i : Int))
theorem srcL_fst {x y : Nat} (h1 : x ≤ y) (h2 : y ≤ l.length) : (srcL l x y).map (·.1) = piece l x y := by
 unfold srcL piece
 rw [List.map_map]
 apply List.ext_getElem
 ·simp; omega
 ·intro k g1 g2
  simp at g1
  simp [ptAt, List.getD_eq_getElem?_getD, show x + k < l.length by omega]
theorem srcL_len (x y : Nat) : (srcL l x y).length = y - x := by unfold srcL; simp
mutual
def mPart : Nat → Nat → List PN
 | 0, _ => []
 | n + 1, p => match holeOf t hs p with
  | some h => srcL l (b h).1 (b h).2
  | none => match t[p]? with
   | some a => ((a.1, (cntP ((mKids n (p + 1) (endB t p)).map (·.1)) : Int), a.2.2), -1) :: mKids n (p + 1) (endB t p)
   | none => []
def mKids : Nat → Nat → Nat → List PN
 | 0, _, _ => []
 | n + 1, p, pend => if p = pend then [] else mPart n p ++ mKids n (endB t p) pend
end
theorem m_inst (hb : ∀ h, (b h).1 ≤ (b h).2 ∧ (b h).2 ≤ l.length) : ∀ n, (∀ p, (mPart t l hs b n p).map (·.1) = iPart t hs (fun h => piece l (b h).1 (b h).2) n p) ∧ (∀ p pend, (mKids t l hs b n p pend).map (·.1) = iKids t hs (fun h => piece l (b h).1 (b h).2) n p pend)
 | 0 => ⟨(fun p => by rw [mPart, iPart]; rfl), (fun p pend => by rw [mKids, iKids]; rfl)⟩
 | n + 1 => by
  obtain ⟨h1, h2⟩ := m_inst hb n
  constructor
  ·intro p
   rw [mPart, iPart]
   cases holeOf t hs p with
   | some h => exact srcL_fst l (hb h).1 (hb h).2
   | none =>
    simp only []
    cases t[p]? with
    | none => rfl
    | some a => simp only [List.map_cons, h2]
  ·intro p pend
   rw [mKids, iKids]
   split
   ·rfl
   ·rw [List.map_append, h1, h2]
def sizeS : Nat → Nat → Nat
 | 0, _ => 0
 | n + 1, p => if p < t.length then (match holeOf t hs p with
  | some h => ((b h).2 - (b h).1) + sizeS n (if kindAt t p = 50 then p + 2 else p + 1)
  | none => 1 + sizeS n (p + 1)) else 0
theorem sizeS_fuel : ∀ n m p, t.length ≤ p + n → t.length ≤ p + m → sizeS t hs b n p = sizeS t hs b m p
 | 0, 0, p, _, _ => rfl
 | 0, m + 1, p, h, _ => by rw [sizeS, sizeS, if_neg (by omega)]
 | n + 1, 0, p, _, h => by rw [sizeS, sizeS, if_neg (by omega)]
 | n + 1, m + 1, p, h1, h2 => by
  rw [sizeS, sizeS]
  split
  ·cases holeOf t hs p with
   | some h =>
    simp only []
    rw [sizeS_fuel n m _ (by split <;> omega) (by split <;> omega)]
   | none =>
    simp only []
    rw [sizeS_fuel n m _ (by omega) (by omega)]
  ·rfl
theorem m_size (H : HolesOK t hs) : ∀ n, (∀ p, p < t.length → 2 * (endB t p - p) ≤ n → ∀ N, t.length ≤ p + N → sizeS t hs b N p = (mPart t l hs b n p).length + sizeS t hs b (N - (endB t p - p)) (endB t p)) ∧
  (∀ p pend K, pend ≤ t.length → advT t K p pend = some pend → p ≤ pend → 2 * (pend - p) + 1 ≤ n → ∀ N, t.length ≤ p + N → sizeS t hs b N p = (mKids t l hs b n p pend).length + sizeS t hs b (N - (pend - p)) pend)
 | 0 => ⟨(fun p hp h => by have := (endB_gt (well_rows H.well) hp).1; omega), (fun _ _ _ _ _ _ h => by omega)⟩
 | n + 1 => by
  obtain ⟨h1, h2⟩ := m_size H n
  have hf := well_rows H.well
  constructor
  ·intro p hp hn N hN
   have hg := endB_gt hf hp
   obtain ⟨N, rfl⟩ : ∃ N', N = N' + 1 := ⟨N - 1, by omega⟩
   rw [sizeS, if_pos hp, mPart]
   cases ho : holeOf t hs p with
   | some h =>
    simp only []
    rw [srcL_len]
    congr 1
    obtain ⟨hh, e⟩ := holeOf_inv ho
    have hk : kindAt t p = (t[p]).1 := by unfold kindAt; rw [List.getElem?_eq_getElem hp]
    have hend : endB t p = if kindAt t p = 50 then p + 2 else p + 1 := by
     rcases stands_inv e with ⟨a1, a2, a3, a4, a5⟩ | ⟨a1, a2, a5⟩
     ·have g1 := end_stmt hf hp (H.stmt p hp a4)
      have g2 := end_leaf hf a3 (H.leaf _ a3 (place_name a5).1)
      rw [if_pos (by rw [hk]; exact a4)]; omega
     ·rw [if_neg (by rw [hk, (place_name a5).1]; omega)]
      exact end_leaf hf hp (H.leaf _ hp (place_name a5).1)
    rw [← hend]
    exact sizeS_fuel t hs b _ _ _ (by omega) (by omega)
   | none =>
    rw [List.getElem?_eq_getElem hp]
    simp only []
    obtain ⟨q, _, hq⟩ := adv_kids hf hp
    rw [List.length_cons, h2 (p + 1) (endB t p) q hg.2 hq (by omega) (by omega) N (by omega)]
    rw [show N + 1 - (endB t p - p) = N - (endB t p - (p + 1)) by omega]
    omega
  ·intro p pend K hpe hK hle hn N hN
   rw [mKids]
   split
   ·rename_i e
    subst e
    rw [Nat.sub_self, Nat.sub_zero]
    simp
   ·rename_i e
    obtain ⟨hlt, J, _, hJ⟩ := adv_next hK e
    have hg := endB_gt hf (show p < t.length by omega)
    have hle2 := adv_le hf _ _ _ _ hpe hJ
    rw [h1 p (by omega) (by omega) N hN, h2 (endB t p) pend J hpe hJ (by omega) (by omega) _ (by omega), List.length_append]
    rw [show N - (endB t p - p) - (pend - endB t p) = N - (pend - p) by omega]
    omega
theorem m_total (H : HolesOK t hs) : sizeS t hs b t.length 0 = (mPart t l hs b (fuelZ t) 0).length := by
 have h0 := well_zero H.well
 rw [(m_size t l hs b H (fuelZ t)).1 0 h0.1 (by rw [h0.2]; unfold fuelZ; omega) t.length (by omega), h0.2]
 rw [show t.length - (t.length - 0) = 0 by omega, sizeS]
 omega
end
section
variable (l : List Prt)
end
end Go.Proofs.YtlkheofphafofaaGreatDoor
namespace Go.Proofs.YtlkheofphafofaaGreatDoor
set_option linter.all false

structure KidSeq (f : List Prt) (p q : Nat) (kp : Nat → Nat) : Prop where
 len : (kidsB f p).length = q
 get : ∀ c, c < q → (kidsB f p)[c]? = some (kp c)
 lt : ∀ c, c < q → kp c < f.length
 nx : ∀ c, c < q → endB f (kp c) = kp (c + 1)
 up : ∀ c, c < q → kp c < kp (c + 1)
 le : ∀ c, c ≤ q → kp c ≤ endB f p
 z : kp 0 = p + 1
 e : kp q = endB f p
 n : (q : Int) ≤ f.length
theorem kid_seq {f : List Prt} {us : List Nat} (h : rowsB f = some us) {p : Nat} (hp : p < f.length) : ∃ q kp, KidSeq f p q kp := by
 obtain ⟨ts, q, f1, f2, f3, f4, f5⟩ := kids_facts h hp
 have hl := (rowsB_sum f1).2.1
 rw [List.length_drop] at hl
 refine ⟨q, fun c => p + 1 + (ts.take c).sum, ⟨?_, fun c hc => ?_, fun c hc => ?_, fun c hc => ?_, fun c hc => ?_, fun c hc => ?_, by simp, f4.symm, by omega⟩⟩
 ·rw [f5, List.length_take, starts_length]; omega
 ·obtain ⟨_, _, g3, _⟩ := kid_step h f1 f3 hc
  have e1 : (starts (p + 1) ts)[c]? = some (p + 1 + (ts.take c).sum) := by
   have e2 : ((starts (p + 1) ts).take (c + 1))[c]? = some (p + 1 + (ts.take c).sum) := by
    rw [g3, List.getElem?_append_right (by rw [List.length_take, starts_length]; omega), List.length_take, starts_length, Nat.min_eq_left (by omega), Nat.sub_self]
    rfl
   rw [List.getElem?_take_of_lt (by omega)] at e2
   exact e2
  rw [f5, List.getElem?_take_of_lt hc, e1]
 ·exact (kid_step h f1 f3 hc).1
 ·exact (kid_step h f1 f3 hc).2.1
 ·have := (kid_step h f1 f3 hc).2.2.2.2.1
  show p + 1 + _ < p + 1 + _
  omega
 ·rw [f4]
  have := sum_take_add ts c (q - c)
  rw [show c + (q - c) = q by omega] at this
  show p + 1 + _ ≤ p + 1 + _
  omega
section
variable {f l : List Prt} {hs : List Hl} {L : Nat → Nat}
end
end Go.Proofs.YtlkheofphafofaaGreatDoor
namespace Go.Proofs.YtlkheofphafofaaGreatDoor
set_option linter.all false

def bOf (bs : List Bnd) (h : Nat) : Nat × Nat := match bs[h]? with
 | some x => (x.2.1.toNat, x.2.2.toNat)
 | none => (0, 0)
def BindsIn (bs : List Bnd) (l : List Prt) : Prop := ∀ x ∈ bs, 0 ≤ x.2.1 ∧ x.2.1 ≤ x.2.2 ∧ x.2.2 ≤ l.length
theorem bOf_at {bs : List Bnd} {h : Nat} (hh : h < bs.length) : bOf bs h = ((bs[h]).2.1.toNat, (bs[h]).2.2.toNat) := by unfold bOf; rw [List.getElem?_eq_getElem hh]
theorem bOf_in {bs : List Bnd} {l : List Prt} (hb : BindsIn bs l) (h : Nat) : (bOf bs h).1 ≤ (bOf bs h).2 ∧ (bOf bs h).2 ≤ l.length := by
 by_cases hh : h < bs.length
 ·have := hb _ (List.getElem_mem hh)
  rw [bOf_at hh]
  simp only []
  omega
 ·unfold bOf
  rw [List.getElem?_eq_none (by omega)]
  simp
section
variable {t l : List Prt} {hs : List Hl} {b : Nat → Nat × Nat}
theorem mp_hole {n p h : Nat} (ho : holeOf t hs p = some h) : mPart t l hs b (n + 1) p = srcL l (b h).1 (b h).2 := by rw [mPart, ho]
theorem mp_none {n p : Nat} (ho : holeOf t hs p = none) (hp : p < t.length) : mPart t l hs b (n + 1) p = (((t[p]).1, (cntP ((mKids t l hs b n (p + 1) (endB t p)).map (·.1)) : Int), (t[p]).2.2), -1) :: mKids t l hs b n (p + 1) (endB t p) := by
 rw [mPart, ho, List.getElem?_eq_getElem hp]
theorem mk_end {n p : Nat} : mKids t l hs b (n + 1) p p = [] := by rw [mKids, if_pos rfl]
theorem mk_next {n p pend : Nat} (h : p ≠ pend) : mKids t l hs b (n + 1) p pend = mPart t l hs b n p ++ mKids t l hs b n (endB t p) pend := by rw [mKids, if_neg h]
theorem mPart_rows (hb : ∀ h, (b h).1 ≤ (b h).2 ∧ (b h).2 ≤ l.length) (hv : ∀ h, ∃ ts, rowsB (piece l (b h).1 (b h).2) = some ts) (n p : Nat) : ∃ ts, rowsB ((mPart t l hs b n p).map (·.1)) = some ts := by
 rw [(m_inst t l hs b hb n).1 p]
 obtain ⟨ts, h, _⟩ := (i_rows t hs (fun h => piece l (b h).1 (b h).2) hv n).1 p
 exact ⟨ts, h⟩
end
def intsV (xs : List Int) : List Go.Value := xs.map (Go.Value.int .i64)
end Go.Proofs.YtlkheofphafofaaGreatDoor
namespace Go.Proofs.YtlkheofphafofaaGreatDoor
set_option linter.all false

theorem holeM_snoc (hs : List Hl) (h : Hl) (hd : ∀ g ∈ hs, g.1 ≠ h.1) : (fun x => if x = h.1 then some (hs.length : Int) else holeM hs x) = holeM (hs ++ [h]) := by
 funext x
 unfold holeM
 rw [List.findIdx?_append]
 by_cases e : x = h.1
 ·subst e
  have h1 : List.findIdx? (fun g : Hl => decide (h.1 = g.1)) hs = none := by
   rw [List.findIdx?_eq_none_iff]
   intro g hg
   simp [Ne.symm (hd g hg)]
  rw [if_pos rfl, h1]
  simp [List.findIdx?_cons]
 ·rw [if_neg e]
  have h2 : List.findIdx? (fun g : Hl => decide (x = g.1)) [h] = none := by
   rw [List.findIdx?_eq_none_iff]
   intro g hg
   simp at hg
   subst hg
   simp [e]
  rw [h2]
  simp
theorem binds_start : ∀ hs : List Hl, bindsOf hs (startS hs) = hs.map fun h => (h.1, 0, 0)
 | [] => rfl
 | h :: hs => by
  have := binds_start hs
  unfold bindsOf startS at this ⊢
  rw [List.length_cons, List.replicate_succ, List.zipWith_cons_cons, this]
  rfl
theorem bound_start (hs : List Hl) : boundV (startS hs) = List.replicate hs.length (.bool false) := by
 unfold boundV startS; simp
end Go.Proofs.YtlkheofphafofaaGreatDoor
namespace Go.Proofs.YtlkheofphafofaaGreatDoor
set_option linter.all false
open Go.RowKit

theorem sk_all (E : SkE) (ok : SkOK E) (h7 : ∀ x ∈ E.hs, 1 ≤ x.2 ∧ x.2 ≤ 7) : ∀ n, PartC E n ∧ KidsC E n
 | 0 => ⟨(fun w σ p i K tv hi hp hil hn ht => by have := (endB_gt (well_rows ok.hf.well) hp).1; omega), (fun w σ p pend i iend K tv J M hi hpe hJ hie hM hn ht => by omega)⟩
 | n + 1 => by
  obtain ⟨h1, h2⟩ := sk_all E ok h7 n
  constructor
  ·intro w σ p i K tv hi hp hil hn ht
   cases ho : oneOf E.f E.hs p with
   | some h => exact sk_part_one E ok h7 n w σ p i K tv hi hp hil ht h ho
   | none => exact sk_part_else E ok n h2 w σ p i K tv hi hp hil hn ht ho
  ·intro w σ p pend i iend K tv J M hi hpe hJ hie hM hn ht
   by_cases hpp : p = pend
   ·subst hpp
    exact sk_kids_end E ok n w σ p i iend K tv hi hpe hie (by have := adv_le (well_rows ok.hl) _ _ _ _ hie hM; omega) ht
   ·cases hs : sevOf E.f E.hs p with
    | none => exact sk_kids_one E ok n h1 h2 w σ p pend i iend K tv J M hi hpe hJ hie hM hn ht hpp hs
    | some h => exact sk_kids_sev E ok n h1 h2 w σ p pend i iend K tv J M hi hpe hJ hie hM hn ht hpp h hs
theorem sk_top (E : SkE) (ok : SkOK E) (h7 : ∀ x ∈ E.hs, 1 ≤ x.2 ∧ x.2 ≤ 7) (w : World) (i : Nat) (tv : Value) (hi : SkIn E (startS E.hs) w) (hil : i < E.l.length) (ht : ThenOK E some tv w) :
  Calls Tryz.prog 38 #[.pointer (some ⟨E.g, 0, none⟩), .int .i64 0, .int .i64 (i : Int), tv] w (seekPost E ((aPart E.f E.l E.hs (fuelZ E.f) 0 i (startS E.hs)).head?) (startS E.hs) w) := by
 have h0 := well_zero ok.hf.well
 have := (sk_all E ok h7 (fuelZ E.f)).1 w (startS E.hs) 0 i some tv hi h0.1 hil (by rw [h0.2]; unfold fuelZ; omega) ht
 rw [(s_all E.f E.l E.hs (fuelZ E.f)).1] at this
 have e : ∀ (l : List MSt), l.findSome? some = l.head? := fun l => by cases l <;> simp [List.findSome?_cons]
 rw [e] at this
 exact this
end Go.Proofs.YtlkheofphafofaaGreatDoor
namespace Go.Proofs.YtlkheofphafofaaGreatDoor
set_option linter.all false

def nmXs : ByteArray := ⟨#[120, 115]⟩
def nmYs : ByteArray := ⟨#[121, 115]⟩
def nmS (c : UInt8) : ByteArray := ⟨#[c]⟩
def fixF : List Prt := [(34, 2, ⟨#[]⟩), (26, 0, nmS 102), (11, 3, ⟨#[]⟩), (26, 0, nmXs), (26, 0, nmS 97), (26, 0, nmYs)]
def fixL : List Prt := [(34, 2, ⟨#[]⟩), (26, 0, nmS 102), (11, 4, ⟨#[]⟩), (26, 0, nmS 98), (26, 0, nmS 97), (26, 0, nmS 99), (26, 0, nmS 97)]
def fixH : List Hl := [(nmXs, 6), (nmYs, 6)]
def fixR : RuleM := ⟨nmS 114, 2, fixH, fixF, fixF⟩
theorem fixM_yes : (atZ fixR fixL 0).map (bindsOf fixH) = some [(nmXs, 3, 4), (nmYs, 5, 7)] := by decide +kernel
theorem fixM_no : atZ fixR fixL 1 = none := by decide +kernel
end Go.Proofs.YtlkheofphafofaaGreatDoor
namespace Go.Proofs.YtlkheofphafofaaGreatDoor
set_option linter.all false

end Go.Proofs.YtlkheofphafofaaGreatDoor
