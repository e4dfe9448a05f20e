/- A store into a map by its run equation. -/
import Derived.Test.YtlkheofphafofaaGreatDoorRulesVMb
import Derived.Test.YtlkheofphafofaaGreatDoorCheckBMb
import Derived.Test.YtlkheofphafofaaGreatDoorSeekKMb
namespace Go.Proofs.YtlkheofphafofaaGreatDoor
set_option linter.all false
theorem wpList_mapUpdate_run {P : Program} {w w' : World} {ops : Array Oper} {rest : List Oper} {o : Oper} {a : Act} {Q : Exit → Act → World → Prop}
  (hg : o.guard = none) (m x v : Operand) (t : TypeId) {mv key val : Value} (hrun : (Instr.mapUpdate t mv key val).run P w = .ok () w') (hop : o.op = Op.mapUpdate t m x v)
  (hm : a.eval m = mv) (hx : a.eval x = key) (hv : a.eval v = val) (hK : wpList P ops Q rest (a.put o.dst undef) w') : wpList P ops Q (o :: rest) a w := by
 refine wpList_plain hg fun K' hK' => ?_
 unfold Oper.wp
 simp [execOp, hop, hm, hx, hv, hrun, Result.andThen]
 exact hK' _ _ hK
end Go.Proofs.YtlkheofphafofaaGreatDoor
namespace Go.Proofs.YtlkheofphafofaaGreatDoor
set_option linter.all false

abbrev Mch := Nat × Nat × List Bnd
end Go.Proofs.YtlkheofphafofaaGreatDoor
namespace Go.Proofs.YtlkheofphafofaaGreatDoor
set_option linter.all false

end Go.Proofs.YtlkheofphafofaaGreatDoor
namespace Go.Proofs.YtlkheofphafofaaGreatDoor
set_option linter.all false

def wL1 : List (List UInt8) := [[124, 124]]
def wL2 : List (List UInt8) := [[38, 38]]
def wL3 : List (List UInt8) := [[61, 61], [33, 61], [60], [60, 61], [62], [62, 61]]
def wL4 : List (List UInt8) := [[43], [45], [124], [94]]
def wL5 : List (List UInt8) := [[42], [47], [37], [60, 60], [62, 62], [38], [38, 94]]
def lvW (w : ByteArray) : Nat := if w.toList ∈ wL1 then 1 else if w.toList ∈ wL2 then 2 else if w.toList ∈ wL3 then 3 else if w.toList ∈ wL4 then 4 else if w.toList ∈ wL5 then 5 else 1
def levelZ (p : Prt) : Nat := if p.1 = 36 ∨ p.1 = 35 then 6 else if p.1 = 37 then lvW p.2.2 else 7
def looseZ (p : Prt) (nth : Nat) (kid : Prt) : Bool :=
 if p.1 = 37 then (decide (nth = 0) && decide (levelZ kid < levelZ p)) || (decide (nth = 1) && decide (levelZ kid ≤ levelZ p))
 else if p.1 = 35 ∨ p.1 = 36 then decide (levelZ kid < 6)
 else if 29 ≤ p.1 ∧ p.1 ≤ 34 then decide (nth = 0) && decide (levelZ kid < 7)
 else if p.1 = 61 then decide (nth = 2) && decide (levelZ kid < 7)
 else false
abbrev PN := Prt × Int
def paren : PN := ((28, 1, ByteArray.empty), -1)
def brk (p : Prt) (nth : Nat) (kid : Prt) : List PN := if looseZ p nth kid then [paren] else []
section
variable (l : List Prt) (from' : List Int)
def pnAt (i : Nat) : PN := (l.getD i (0, 0, ByteArray.empty), from'.getD i 0)
def ptAt (i : Nat) : Prt := l.getD i (0, 0, ByteArray.empty)
mutual
def gPart : Nat → Nat → List PN
 | 0, _ => []
 | n + 1, i => pnAt l from' i :: gKids n (ptAt l i) 0 (i + 1) (endB l i)
def gKids : Nat → Prt → Nat → Nat → Nat → List PN
 | 0, _, _, _, _ => []
 | n + 1, p, nth, k, stop => if k = stop then [] else brk p nth (ptAt l k) ++ (gPart n k ++ gKids n p (nth + 1) (endB l k) stop)
end
variable {l}
variable (l)
end
section
variable (l : List Prt) (from' : List Int)
end
end Go.Proofs.YtlkheofphafofaaGreatDoor
namespace Go.Proofs.YtlkheofphafofaaGreatDoor
set_option linter.all false

section
variable (t l : List Prt) (hs : List Hl) (b : Nat → Nat × Nat)
def srcL (x y : Nat) : List PN := (List.range' x (y - x)).map fun i => (ptAt l i, (i : Int))
theorem srcL_fst {x y : Nat} (h1 : x ≤ y) (h2 : y ≤ l.length) : (srcL l x y).map (·.1) = piece l x y := by
 unfold srcL piece
 rw [List.map_map]
 apply List.ext_getElem
 ·simp; omega
 ·intro k g1 g2
  simp at g1
  simp [ptAt, List.getD_eq_getElem?_getD, show x + k < l.length by omega]
theorem srcL_len (x y : Nat) : (srcL l x y).length = y - x := by unfold srcL; simp
mutual
def mPart : Nat → Nat → List PN
 | 0, _ => []
 | n + 1, p => match holeOf t hs p with
  | some h => srcL l (b h).1 (b h).2
  | none => match t[p]? with
   | some a => ((a.1, (cntP ((mKids n (p + 1) (endB t p)).map (·.1)) : Int), a.2.2), -1) :: mKids n (p + 1) (endB t p)
   | none => []
def mKids : Nat → Nat → Nat → List PN
 | 0, _, _ => []
 | n + 1, p, pend => if p = pend then [] else mPart n p ++ mKids n (endB t p) pend
end
theorem m_inst (hb : ∀ h, (b h).1 ≤ (b h).2 ∧ (b h).2 ≤ l.length) : ∀ n, (∀ p, (mPart t l hs b n p).map (·.1) = iPart t hs (fun h => piece l (b h).1 (b h).2) n p) ∧ (∀ p pend, (mKids t l hs b n p pend).map (·.1) = iKids t hs (fun h => piece l (b h).1 (b h).2) n p pend)
 | 0 => ⟨(fun p => by rw [mPart, iPart]; rfl), (fun p pend => by rw [mKids, iKids]; rfl)⟩
 | n + 1 => by
  obtain ⟨h1, h2⟩ := m_inst hb n
  constructor
  ·intro p
   rw [mPart, iPart]
   cases holeOf t hs p with
   | some h => exact srcL_fst l (hb h).1 (hb h).2
   | none =>
    simp only []
    cases t[p]? with
    | none => rfl
    | some a => simp only [List.map_cons, h2]
  ·intro p pend
   rw [mKids, iKids]
   split
   ·rfl
   ·rw [List.map_append, h1, h2]
end
section
variable (l : List Prt)
end
end Go.Proofs.YtlkheofphafofaaGreatDoor
namespace Go.Proofs.YtlkheofphafofaaGreatDoor
set_option linter.all false

structure KidSeq (f : List Prt) (p q : Nat) (kp : Nat → Nat) : Prop where
 len : (kidsB f p).length = q
 get : ∀ c, c < q → (kidsB f p)[c]? = some (kp c)
 lt : ∀ c, c < q → kp c < f.length
 nx : ∀ c, c < q → endB f (kp c) = kp (c + 1)
 up : ∀ c, c < q → kp c < kp (c + 1)
 le : ∀ c, c ≤ q → kp c ≤ endB f p
 z : kp 0 = p + 1
 e : kp q = endB f p
 n : (q : Int) ≤ f.length
theorem kid_seq {f : List Prt} {us : List Nat} (h : rowsB f = some us) {p : Nat} (hp : p < f.length) : ∃ q kp, KidSeq f p q kp := by
 obtain ⟨ts, q, f1, f2, f3, f4, f5⟩ := kids_facts h hp
 have hl := (rowsB_sum f1).2.1
 rw [List.length_drop] at hl
 refine ⟨q, fun c => p + 1 + (ts.take c).sum, ⟨?_, fun c hc => ?_, fun c hc => ?_, fun c hc => ?_, fun c hc => ?_, fun c hc => ?_, by simp, f4.symm, by omega⟩⟩
 ·rw [f5, List.length_take, starts_length]; omega
 ·obtain ⟨_, _, g3, _⟩ := kid_step h f1 f3 hc
  have e1 : (starts (p + 1) ts)[c]? = some (p + 1 + (ts.take c).sum) := by
   have e2 : ((starts (p + 1) ts).take (c + 1))[c]? = some (p + 1 + (ts.take c).sum) := by
    rw [g3, List.getElem?_append_right (by rw [List.length_take, starts_length]; omega), List.length_take, starts_length, Nat.min_eq_left (by omega), Nat.sub_self]
    rfl
   rw [List.getElem?_take_of_lt (by omega)] at e2
   exact e2
  rw [f5, List.getElem?_take_of_lt hc, e1]
 ·exact (kid_step h f1 f3 hc).1
 ·exact (kid_step h f1 f3 hc).2.1
 ·have := (kid_step h f1 f3 hc).2.2.2.2.1
  show p + 1 + _ < p + 1 + _
  omega
 ·rw [f4]
  have := sum_take_add ts c (q - c)
  rw [show c + (q - c) = q by omega] at this
  show p + 1 + _ ≤ p + 1 + _
  omega
section
variable {f l : List Prt} {hs : List Hl} {L : Nat → Nat}
end
end Go.Proofs.YtlkheofphafofaaGreatDoor
namespace Go.Proofs.YtlkheofphafofaaGreatDoor
set_option linter.all false

theorem holeM_snoc (hs : List Hl) (h : Hl) (hd : ∀ g ∈ hs, g.1 ≠ h.1) : (fun x => if x = h.1 then some (hs.length : Int) else holeM hs x) = holeM (hs ++ [h]) := by
 funext x
 unfold holeM
 rw [List.findIdx?_append]
 by_cases e : x = h.1
 ·subst e
  have h1 : List.findIdx? (fun g : Hl => decide (h.1 = g.1)) hs = none := by
   rw [List.findIdx?_eq_none_iff]
   intro g hg
   simp [Ne.symm (hd g hg)]
  rw [if_pos rfl, h1]
  simp [List.findIdx?_cons]
 ·rw [if_neg e]
  have h2 : List.findIdx? (fun g : Hl => decide (x = g.1)) [h] = none := by
   rw [List.findIdx?_eq_none_iff]
   intro g hg
   simp at hg
   subst hg
   simp [e]
  rw [h2]
  simp
theorem binds_start : ∀ hs : List Hl, bindsOf hs (startS hs) = hs.map fun h => (h.1, 0, 0)
 | [] => rfl
 | h :: hs => by
  have := binds_start hs
  unfold bindsOf startS at this ⊢
  rw [List.length_cons, List.replicate_succ, List.zipWith_cons_cons, this]
  rfl
theorem bound_start (hs : List Hl) : boundV (startS hs) = List.replicate hs.length (.bool false) := by
 unfold boundV startS; simp
end Go.Proofs.YtlkheofphafofaaGreatDoor
namespace Go.Proofs.YtlkheofphafofaaGreatDoor
set_option linter.all false
attribute [local irreducible] Calls
open Go.RowKit

theorem fresh_open (w : World) (v : Value) (T : TypeId) : (w.alloc (.cells #[v] T)).frozen? ⟨w.heap.size, 0, none⟩ = false := by
 have hn : (w.alloc (.cells #[v] T)).heap[w.heap.size]? = some (.cells #[v] T (0, 0)) := heap_alloc_new _ _
 unfold World.frozen?
 rw [hn]
 simp
def boxInt (v : Value) (w : World) : Int := match v with
 | .pointer (some a) => (match w.cell? a with
  | some u => intOf u
  | none => 0)
 | _ => 0
def sevRel (E : SkE) (σ : MSt) (W0 : World) (i iend : Nat) (g : Nat → Option MSt) (R : Option MSt) (pv : Value) (wr : World) : Prop :=
 ∃ bt tq m fu : Nat, pv = .pointer (some ⟨bt, 0, none⟩) ∧ BoxAt E wr bt (.int .i64 (tq : Int)) ∧ wr.frozen? ⟨bt, 0, none⟩ = false ∧ KeptX E W0 wr ∧ SkIn E σ wr ∧ advT E.l m i iend = some tq ∧ iend - tq < fu ∧ sLoop E.l g fu tq iend = R
set_option maxRecDepth 100000 in
set_option maxHeartbeats 16000000 in
theorem sk_kids_sev (E : SkE) (ok : SkOK E) (n : Nat) (IHP : PartC E n) (IHK : KidsC E n) (w : World) (σ : MSt) (p pend i iend : Nat) (K : MSt → Option MSt) (tv : Value) (J M : Nat) (hi : SkIn E σ w) (hpe : pend ≤ E.f.length) (hJ : advT E.f J p pend = some pend) (hie : iend ≤ E.l.length) (hM : advT E.l M i iend = some iend) (hn : 2 * (pend - p) + 1 ≤ n + 1) (ht : ThenOK E K tv w) (hpp : p ≠ pend) (h : Nat) (hsv : sevOf E.f E.hs p = some h) :
  Calls Tryz.prog 63 #[.pointer (some ⟨E.g, 0, none⟩), .int .i64 (p : Int), .int .i64 (pend : Int), .int .i64 (i : Int), .int .i64 (iend : Int), tv] w (seekPost E (sKids E.f E.l E.hs (n + 1) p pend i iend K σ) σ w) := by
 have hsk : sKids E.f E.l E.hs (n + 1) p pend i iend K σ = sLoop E.l (fun tq => (bindS E.l σ h i tq).bind (sKids E.f E.l E.hs n (endB E.f p) pend tq iend K)) (E.l.length + 1) i iend := by rw [sKids, if_neg hpp, hsv]
 rw [hsk]
 obtain ⟨Q, hQ⟩ : ∃ Q, seekPost E (sLoop E.l (fun tq => (bindS E.l σ h i tq).bind (sKids E.f E.l E.hs n (endB E.f p) pend tq iend K)) (E.l.length + 1) i iend) σ w = Q := ⟨_, rfl⟩
 have HQ : RowKit.Hid (∀ e w', seekPost E (sLoop E.l (fun tq => (bindS E.l σ h i tq).bind (sKids E.f E.l E.hs n (endB E.f p) pend tq iend K)) (E.l.length + 1) i iend) σ w e w' → Q e w') := Lib.hid fun e w' h => by rw [← hQ]; exact h
 rw [hQ]
 clear hQ hsk
 have ht' := ht
 obtain ⟨kf, kcap, rfl, _, _⟩ := ht'
 have hfw := well_rows ok.hf.well
 have hlw := well_rows ok.hl
 obtain ⟨hplt, J', _, hJ'⟩ := adv_next hJ hpp
 have hle := adv_le hfw _ _ _ _ hpe hJ'
 have hgf := endB_gt hfw (show p < E.f.length by omega)
 have HB : RowKit.Hid (Below w.heap.size w (boxed w E.g p pend i iend (.func (.func kf) #[] kcap))) := Lib.hid (boxed_below _ _ _ _ _ _ _)
 have hbx := boxed_box hi p pend i iend (.func (.func kf) #[] kcap) hi.fresh
 have HI := Lib.hid (hi.below (boxed_below w E.g p pend i iend (.func (.func kf) #[] kcap)))
 have C1 := Lib.hid (sk_hole E ok _ HI.out.st.now p (by omega))
 have C2 := Lib.hid (fun W (hk : KeptX E (boxed w E.g p pend i iend (.func (.func kf) #[] kcap)) W) h (hh : h < E.hs.length) => sk_several E W ((HI.out.st.keep hk).now) ok.hn h hh)
 have hmf : ∀ (fn : Fn) (first cap : Array Value) (w : World), (Instr.makeFunc fn first cap).run Tryz.prog w = .ok (.func fn first cap) w := fun _ _ _ _ => rfl
 have g1 : ((p : Int) == (pend : Int)) = false := by rw [beq_eq_false_iff_ne]; omega
 have g2 : (p == pend) = false := by rw [beq_eq_false_iff_ne]; exact hpp
 obtain ⟨hsev, ho1⟩ := sevOf_sev E.f E.hs hsv
 have hh := hole_lt E.f E.hs ho1
 rw [ho1] at C1
 have hh0 : (0 : Int) ≤ (h : Int) := by omega
 have hsz := boxed_size w E.g p pend i iend (.func (.func kf) #[] kcap)
 have HSZ := Lib.hid hsz
 obtain ⟨b0, b1, b2, b3, b4, b5⟩ := hbx
 have k0 := b0.c
 have k1 := b1.c
 have k2 := b2.c
 have k3 := b3.c
 have k4 := b4.c
 have k5 := b5.c
 have HBX : RowKit.Hid (∀ m, KeptX E w ((boxed w E.g p pend i iend (.func (.func kf) #[] kcap)).drewN m)) := Lib.hid fun m => (KeptX.of_below HB.out).trans (KeptX.drewN E _ m)
 have HM := Lib.hid hM
 have HBB := Lib.hid (show BoxAt E (boxed w E.g p pend i iend (.func (.func kf) #[] kcap)) w.heap.size (.pointer (some ⟨E.g, 0, none⟩)) ∧ BoxAt E (boxed w E.g p pend i iend (.func (.func kf) #[] kcap)) (w.heap.size + 1) (.int .i64 (p : Int)) ∧ BoxAt E (boxed w E.g p pend i iend (.func (.func kf) #[] kcap)) (w.heap.size + 2) (.int .i64 (pend : Int)) ∧ BoxAt E (boxed w E.g p pend i iend (.func (.func kf) #[] kcap)) (w.heap.size + 3) (.int .i64 (i : Int)) ∧ BoxAt E (boxed w E.g p pend i iend (.func (.func kf) #[] kcap)) (w.heap.size + 4) (.int .i64 (iend : Int)) ∧ BoxAt E (boxed w E.g p pend i iend (.func (.func kf) #[] kcap)) (w.heap.size + 5) (.func (.func kf) #[] kcap) from ⟨b0, b1, b2, b3, b4, b5⟩)
 have CB := Lib.hid (fun W (hk : KeptX E (boxed w E.g p pend i iend (.func (.func kf) #[] kcap)) W) (hs : SkIn E σ W) (bt tq m : Nat) (hbt : BoxAt E W bt (.int .i64 (tq : Int))) (hto : advT E.l m i iend = some tq) =>
  sk_bind E ok W σ hs h hh i tq (by have := adv_le hlw _ _ _ _ hie hto; omega) (by have := (adv_rest hlw hie hM hto).2.1; omega) _ _ (sk_then2 E ok n IHK W hs.st p pend tq iend K (.func (.func kf) #[] kcap) (ht.keep ((KeptX.of_below HB.out).trans hk)) _ _ _ _ _ _ (b0.keep hk) (b1.keep hk) (b2.keep hk) hbt (b4.keep hk) (b5.keep hk) (by omega) J' (M - m) hpe hJ' hie (adv_rest hlw hie hM hto).2.2 (by omega)))
 have HLW := Lib.hid hlw
 have hiel : (iend : Int) ≤ E.l.length := by omega
 have hll := ok.ll
 have hile := adv_le hlw _ _ _ _ hie hM
 clear hi ht hJ hM hn hpp hsv hfw hlw hJ' hle hgf ho1 hsz b0 b1 b2 b3 b4 b5
 go_enter Tryz.func63, Tryz.ntmps63
 go_wp2_with fail
 refine C1.out.mono ?_
 intro e w1 h1
 unfold holePost at h1
 obtain ⟨rfl, m, rfl⟩ := h1
 unfold holeZ
 go_wp2_with fail
 refine (C2.out _ (KeptX.drewN E _ m) h hh).mono ?_
 rw [hsev]
 rintro e w2 ⟨rfl, rfl⟩
 have j0 : ((boxed w E.g p pend i iend (.func (.func kf) #[] kcap)).drewN m).cell? ⟨w.heap.size, 0, none⟩ = some (.pointer (some ⟨E.g, 0, none⟩)) := k0
 have j1 : ((boxed w E.g p pend i iend (.func (.func kf) #[] kcap)).drewN m).cell? ⟨w.heap.size + 1, 0, none⟩ = some (.int .i64 (p : Int)) := k1
 have j2 : ((boxed w E.g p pend i iend (.func (.func kf) #[] kcap)).drewN m).cell? ⟨w.heap.size + 2, 0, none⟩ = some (.int .i64 (pend : Int)) := k2
 have j3 : ((boxed w E.g p pend i iend (.func (.func kf) #[] kcap)).drewN m).cell? ⟨w.heap.size + 3, 0, none⟩ = some (.int .i64 (i : Int)) := k3
 have j4 : ((boxed w E.g p pend i iend (.func (.func kf) #[] kcap)).drewN m).cell? ⟨w.heap.size + 4, 0, none⟩ = some (.int .i64 (iend : Int)) := k4
 have j5 : ((boxed w E.g p pend i iend (.func (.func kf) #[] kcap)).drewN m).cell? ⟨w.heap.size + 5, 0, none⟩ = some (.func (.func kf) #[] kcap) := k5
 have HKW := Lib.hid (KeptX.drewN E (boxed w E.g p pend i iend (.func (.func kf) #[] kcap)) m)
 have HIW := Lib.hid (HI.out.drewN m)
 have HXW := Lib.hid (HBX.out m)
 have HSW : RowKit.Hid (((boxed w E.g p pend i iend (.func (.func kf) #[] kcap)).drewN m).heap.size = w.heap.size + 6) := Lib.hid HSZ.out
 clear k0 k1 k2 k3 k4 k5 C1 C2
 generalize (boxed w E.g p pend i iend (.func (.func kf) #[] kcap)).drewN m = W1 at *
 have HBW := Lib.hid (show BoxAt E W1 w.heap.size (.pointer (some ⟨E.g, 0, none⟩)) ∧ BoxAt E W1 (w.heap.size + 1) (.int .i64 (p : Int)) ∧ BoxAt E W1 (w.heap.size + 2) (.int .i64 (pend : Int)) ∧ BoxAt E W1 (w.heap.size + 3) (.int .i64 (i : Int)) ∧ BoxAt E W1 (w.heap.size + 4) (.int .i64 (iend : Int)) ∧ BoxAt E W1 (w.heap.size + 5) (.func (.func kf) #[] kcap) from ⟨HBB.out.1.keep HKW.out, HBB.out.2.1.keep HKW.out, HBB.out.2.2.1.keep HKW.out, HBB.out.2.2.2.1.keep HKW.out, HBB.out.2.2.2.2.1.keep HKW.out, HBB.out.2.2.2.2.2.keep HKW.out⟩)
 have HAT : RowKit.Hid (sevRel E σ W1 i iend (fun tq => (bindS E.l σ h i tq).bind (sKids E.f E.l E.hs n (endB E.f p) pend tq iend K)) (sLoop E.l (fun tq => (bindS E.l σ h i tq).bind (sKids E.f E.l E.hs n (endB E.f p) pend tq iend K)) (E.l.length + 1) i iend) (.pointer (some ⟨W1.heap.size, 0, none⟩)) (W1.alloc (.cells #[.int .i64 (i : Int)] 3))) := Lib.hid
  ⟨W1.heap.size, i, 0, E.l.length + 1, rfl, ⟨World.cell?_alloc_at _ _ _ _ rfl, by simp, (HIW.out.fresh _ (Nat.le_refl _)).1, (HIW.out.fresh _ (Nat.le_refl _)).2⟩, fresh_open W1 _ _, KeptX.alloc E W1 _, HIW.out.below ((Below.refl _ _).alloc (Nat.le_refl _) _), rfl, by omega, rfl⟩
 generalize hR : sLoop E.l (fun tq => (bindS E.l σ h i tq).bind (sKids E.f E.l E.hs n (endB E.f p) pend tq iend K)) (E.l.length + 1) i iend = R at *
 clear hR
 go_wp2_with fail
 clear j0 j1 j2 j3 j4 j5
 go_loopw [14] (fun pv wr => sevRel E σ W1 i iend (fun tq => (bindS E.l σ h i tq).bind (sKids E.f E.l E.hs n (endB E.f p) pend tq iend K)) R pv wr) (fun pv wr => (iend - boxInt pv wr).toNat)
 case atStart => exact HAT.out
 case round =>
  obtain ⟨bt, tq, m2, fu, rfl, hbox, hfz, hkx, hsk, hadv, hfu, hR⟩ := hrel
  obtain ⟨fu, rfl⟩ : ∃ f', fu = f' + 1 := ⟨fu - 1, by omega⟩
  rw [sLoop] at hR
  have hkw := HKW.out.trans hkx
  have CBR := Lib.hid (CB.out wr hkw hsk bt tq m2 hbox hadv)
  have c0 := (HBW.out.1.keep hkx).c
  have c1 := (HBW.out.2.1.keep hkx).c
  have c2 := (HBW.out.2.2.1.keep hkx).c
  have c3 := (HBW.out.2.2.2.1.keep hkx).c
  have c4 := (HBW.out.2.2.2.2.1.keep hkx).c
  have c5 := (HBW.out.2.2.2.2.2.keep hkx).c
  have ct := hbox.c
  have HBOX := Lib.hid hbox
  have HKX := Lib.hid hkx
  have HFZ := Lib.hid hfz
  have HADV := Lib.hid hadv
  have HMS : RowKit.Hid (tq ≤ iend ∧ i ≤ tq) := Lib.hid ⟨(adv_rest HLW.out hie HM.out hadv).2.1, by have := adv_le HLW.out _ _ _ _ hie hadv; omega⟩
  have HRR := Lib.hid hR
  clear hbox hfz hkx hsk hadv hR hkw HAT
  go_wp2_with fail
  refine CBR.out.mono ?_
  intro e w6 h6
  obtain ⟨y, rfl⟩ := h6.bool
  have HK6 := Lib.hid h6.out.1
  have HO6 := Lib.hid h6.out.2
  clear h6 CBR
  cases y with
  | true =>
   have hx : Q (.returned (.bool true)) w6 := by
    rcases HO6.out with ⟨τ, k1, _, k3⟩ | ⟨_, k2, _⟩
    ·have hr := HRR.out
     rw [k1] at hr
     exact HQ.out _ _ (seekPost.yes hr.symm (HXW.out.trans (HKX.out.trans HK6.out)) k3)
    ·cases k2
   have HX := Lib.hid hx
   clear hx HO6 c0 c1 c2 c3 c4 c5 ct
   go_wp2_with fail
   exact HX.out
  | false =>
   have hno : (bindS E.l σ h i tq).bind (sKids E.f E.l E.hs n (endB E.f p) pend tq iend K) = none ∧ SkIn E σ w6 := by
    rcases HO6.out with ⟨τ, _, k2, _⟩ | ⟨k1, _, k3⟩
    ·cases k2
    ·exact ⟨k1, k3⟩
   have hr := HRR.out
   rw [hno.1] at hr
   simp only [] at hr
   have HRR := Lib.hid hr
   have HI6 := Lib.hid hno.2
   clear c0 c1 c2 c3 c4 c5 ct hno hr HO6
   have c0 := (HBW.out.1.keep (HKX.out.trans HK6.out)).c
   have c4 := (HBW.out.2.2.2.2.1.keep (HKX.out.trans HK6.out)).c
   have ct := (HBOX.out.keep HK6.out).c
   by_cases hte : tq = iend
   ·have g3 : ((tq : Int) == (iend : Int)) = true := by rw [beq_iff_eq]; omega
    have g4 : (tq == iend) = true := by rw [beq_iff_eq]; exact hte
    have hr := HRR.out
    rw [if_pos hte] at hr
    have HX := Lib.hid (HQ.out _ _ (seekPost.no hr.symm (HXW.out.trans (HKX.out.trans HK6.out)) HI6.out))
    clear hte hr
    go_wp2_with fail
    exact HX.out
   ·have g3 : ((tq : Int) == (iend : Int)) = false := by rw [beq_eq_false_iff_ne]; omega
    have g4 : (tq == iend) = false := by rw [beq_eq_false_iff_ne]; exact hte
    have hr := HRR.out
    rw [if_neg hte] at hr
    have HRR := Lib.hid hr
    have hms := HMS.out
    obtain ⟨eb, eo, ec, hev, hec, hep⟩ := HI6.out.st.ends (L := E.l) (v := E.ve) (fun w' hk => (HI6.out.st w' hk).e) (by omega)
    have hge := endB_gt HLW.out (show tq < E.l.length by omega)
    have hadv2 : advT E.l (m2 + 1) i iend = some (endB E.l tq) := by
     rw [adv_add, HADV.out, Option.bind_some, advT, if_pos (by omega), advT]
    have HADV2 := Lib.hid hadv2
    have HGE := Lib.hid hge
    have HLE := Lib.hid (adv_rest HLW.out hie HM.out hadv2).2.1
    have HS : RowKit.Hid (∀ W, KeptX E w6 W → (fun W => W.cell? ⟨w.heap.size, 0, none⟩ = some (.pointer (some ⟨E.g, 0, none⟩)) ∧ W.cell? ⟨E.g, 3, none⟩ = some (.slice (some ⟨eb, eo, none⟩) E.l.length ec) ∧ W.cell? ⟨eb, eo + tq, none⟩ = some (.int .i64 (endB E.l tq : Int)) ∧ RowKit.Hid (KeptX E w6 W)) W) := Lib.hid fun W hk => by
     have hc := (HI6.out.st W hk).cells
     exact ⟨(HBW.out.1.keep ((HKX.out.trans HK6.out).trans hk)).c, by rw [hc.2.2.2.1, hev], hep W hk tq (by omega), Lib.hid hk⟩
    have htl : (tq : Int) < E.l.length := by omega
    have ht0 : (0 : Int) ≤ (tq : Int) := by omega
    clear hte hr hms hev hep hge hadv2
    generalize endB E.l tq = zl at *
    go_upto_region 7 with (fail)
    have HB7 : RowKit.Hid (Below w6.heap.size w6 (w6.alloc (.cells #[.int .i64 (tq : Int)] 3))) := Lib.hid ((Below.refl _ _).alloc (Nat.le_refl _) _)
    have ct7 : (w6.alloc (.cells #[.int .i64 (tq : Int)] 3)).cell? ⟨w6.heap.size, 0, none⟩ = some (.int .i64 (tq : Int)) := World.cell?_alloc_at _ _ _ _ rfl
    have cz7 : (w6.alloc (.cells #[.int .i64 (tq : Int)] 3)).frozen? ⟨w6.heap.size, 0, none⟩ = false := fresh_open _ _ _
    have hz7 : w6.heap.size < (w6.alloc (.cells #[.int .i64 (tq : Int)] 3)).heap.size := by simp
    have HFR := Lib.hid (HI6.out.fresh w6.heap.size (Nat.le_refl _))
    generalize w6.alloc (.cells #[.int .i64 (tq : Int)] 3) = W7 at *
    generalize hnb : w6.heap.size = nb at *
    have HNB := Lib.hid hnb
    have HZ7 := Lib.hid hz7
    clear hnb hz7 c0 c4 ct
    have HK7 : RowKit.Hid (KeptX E w6 W7) := Lib.hid (KeptX.of_below (HNB.out ▸ HB7.out))
    have HBS : RowKit.Hid (∀ W, Below nb w6 W → KeptX E w6 W) := Lib.hid fun W hb => KeptX.of_below (HNB.out ▸ hb)
    refine wp_region_noPanic ?_
    refine wp_region_held_drew (S := fun W => W.cell? ⟨w.heap.size, 0, none⟩ = some (.pointer (some ⟨E.g, 0, none⟩)) ∧ W.cell? ⟨E.g, 3, none⟩ = some (.slice (some ⟨eb, eo, none⟩) E.l.length ec) ∧ W.cell? ⟨eb, eo + tq, none⟩ = some (.int .i64 (zl : Int)) ∧ RowKit.Hid (KeptX E w6 W)) (by kernel_rfl) (HS.out _ (HBS.out _ HB7.out.drew)) (fun hHeldA => ?_)
    refine wpAnyH_take (i := 0) (oi := _) (v := ?vA0) rfl (by kernel_rfl) (by kernel_rfl) (by kernel_rfl) (fun _ _ _ h => h) (Or.inl ⟨by kernel_rfl, ?hyA0⟩) hHeldA ?restA0
    case hyA0 => intro w hSw; (try dsimp only at hSw); go_simp; (try with_reducible rfl)
    (try simp only [Act.put, List.setIfInBounds_toArray, List.set_cons_zero, List.set_cons_succ])
    refine wpAnyH_take (i := 1) (oi := _) (v := ?vA1) rfl (by kernel_rfl) (by kernel_rfl) (by kernel_rfl) (fun _ _ _ h => h) (Or.inl ⟨by kernel_rfl, ?hyA1⟩) hHeldA ?restA1
    case hyA1 => intro w hSw; (try dsimp only at hSw); go_simp; (try with_reducible rfl)
    (try simp only [Act.put, List.setIfInBounds_toArray, List.set_cons_zero, List.set_cons_succ])
    refine wpAnyH_take (i := 2) (oi := _) (v := ?vA2) rfl (by kernel_rfl) (by kernel_rfl) (by kernel_rfl) (fun _ _ _ h => h) (Or.inl ⟨by kernel_rfl, ?hyA2⟩) hHeldA ?restA2
    case hyA2 => intro w hSw; (try dsimp only at hSw); go_simp; (try with_reducible rfl)
    (try simp only [Act.put, List.setIfInBounds_toArray, List.set_cons_zero, List.set_cons_succ])
    refine wpAnyH_take (i := 3) (oi := _) (v := ?vA3) rfl (by kernel_rfl) (by kernel_rfl) (by kernel_rfl) (fun _ _ _ h => h) (Or.inl ⟨by kernel_rfl, ?hyA3⟩) hHeldA ?restA3
    case hyA3 => intro w hSw; (try dsimp only at hSw); go_simp; (try with_reducible rfl)
    (try simp only [Act.put, List.setIfInBounds_toArray, List.set_cons_zero, List.set_cons_succ])
    refine wpAnyH_ready (rs := [4]) (by kernel_rfl) (by simp) ?_
    refine AllReadyH.cons (o := _) rfl (fun K hK => ?_) AllReadyH.nil
    go_simp
    refine hK.out _ _ hHeldA (fun hHeldA_1 => ?_)
    clear hK K hHeldA
    (try simp only [Act.put, List.setIfInBounds_toArray, List.set_cons_zero, List.set_cons_succ])
    refine wpAnyH_take (i := 5) (oi := _) (v := ?vA5) rfl (by kernel_rfl) (by kernel_rfl) (by kernel_rfl) (fun _ _ _ h => h) (Or.inl ⟨by kernel_rfl, ?hyA5⟩) hHeldA_1 ?restA5
    case hyA5 => intro w hSw; (try dsimp only at hSw); go_simp; (try with_reducible rfl)
    (try simp only [Act.put, List.setIfInBounds_toArray, List.set_cons_zero, List.set_cons_succ])
    refine wpAnyH_take (i := 6) (oi := _) (v := ?vA6) rfl (by kernel_rfl) (by kernel_rfl) (by kernel_rfl) (fun _ _ _ h => h) (Or.inl ⟨by kernel_rfl, ?hyA6⟩) hHeldA_1 ?restA6
    case hyA6 => intro w hSw; (try dsimp only at hSw); go_simp; (try with_reducible rfl)
    (try simp only [Act.put, List.setIfInBounds_toArray, List.set_cons_zero, List.set_cons_succ])
    refine wpAnyH_ready (rs := [7]) (by kernel_rfl) (by simp) ?_
    refine AllReadyH.cons (o := _) rfl (fun K hK => ?_) AllReadyH.nil
    go_simp
    refine hK.out _ _ (HS.out _ (HBS.out _ (HB7.out.setCell (p := ⟨nb, 0, none⟩) (Nat.le_refl _) _).drew)) (fun hHeldA_2 => ?_)
    clear hK K hHeldA_1
    (try simp only [Act.put, List.setIfInBounds_toArray, List.set_cons_zero, List.set_cons_succ])
    refine wpAnyH_done (by kernel_rfl) ?_ _
    refine NoPanic.normal ?_
    have HBN : RowKit.Hid (Below nb w6 (W7.setCell ⟨nb, 0, none⟩ (.int .i64 (zl : Int))).drew) := Lib.hid (HB7.out.setCell (p := ⟨nb, 0, none⟩) (Nat.le_refl _) _).drew
    have hcell : (W7.setCell ⟨nb, 0, none⟩ (.int .i64 (zl : Int))).cell? ⟨nb, 0, none⟩ = some (.int .i64 (zl : Int)) := World.cell?_setCell_same _ _ _ ct7
    have HNX : RowKit.Hid (sevRel E σ W1 i iend (fun tq => (bindS E.l σ h i tq).bind (sKids E.f E.l E.hs n (endB E.f p) pend tq iend K)) R (.pointer (some ⟨nb, 0, none⟩)) (W7.setCell ⟨nb, 0, none⟩ (.int .i64 (zl : Int))).drew) := Lib.hid
     ⟨nb, zl, m2 + 1, fu, rfl, ⟨hcell, by simp; exact HZ7.out, HFR.out.1, HFR.out.2⟩, by simp; exact cz7, (HKX.out.trans HK6.out).trans (HBS.out _ HBN.out), HI6.out.below (HNB.out ▸ HBN.out), HADV2.out, by have := HGE.out; have := HLE.out; omega, HRR.out⟩
    have HMZ : RowKit.Hid (iend - boxInt (.pointer (some ⟨nb, 0, none⟩)) (W7.setCell ⟨nb, 0, none⟩ (.int .i64 (zl : Int))).drew < (iend : Int) - tq ∧ (tq : Int) < iend) := Lib.hid (by
     have h1 : boxInt (.pointer (some ⟨nb, 0, none⟩)) (W7.setCell ⟨nb, 0, none⟩ (.int .i64 (zl : Int))).drew = (zl : Int) := by
      show (match (W7.setCell ⟨nb, 0, none⟩ (.int .i64 (zl : Int))).cell? ⟨nb, 0, none⟩ with
       | some u => intOf u
       | none => 0) = _
      rw [hcell]; rfl
     rw [h1]
     have := HGE.out; have := HLE.out
     constructor <;> omega)
    have HMB : RowKit.Hid (boxInt (.pointer (some ⟨bt, 0, none⟩)) wr = (tq : Int)) := Lib.hid (by
     show (match wr.cell? ⟨bt, 0, none⟩ with
       | some u => intOf u
       | none => 0) = _
     rw [HBOX.out.c]; rfl)
    go_wp2_with fail
    refine ⟨HNX.out, ?_⟩
    have h1 := HMZ.out
    rw [HMB.out]
    omega
end Go.Proofs.YtlkheofphafofaaGreatDoor
namespace Go.Proofs.YtlkheofphafofaaGreatDoor
set_option linter.all false
open Go.RowKit

theorem sk_all (E : SkE) (ok : SkOK E) (h7 : ∀ x ∈ E.hs, 1 ≤ x.2 ∧ x.2 ≤ 7) : ∀ n, PartC E n ∧ KidsC E n
 | 0 => ⟨(fun w σ p i K tv hi hp hil hn ht => by have := (endB_gt (well_rows ok.hf.well) hp).1; omega), (fun w σ p pend i iend K tv J M hi hpe hJ hie hM hn ht => by omega)⟩
 | n + 1 => by
  obtain ⟨h1, h2⟩ := sk_all E ok h7 n
  constructor
  ·intro w σ p i K tv hi hp hil hn ht
   cases ho : oneOf E.f E.hs p with
   | some h => exact sk_part_one E ok h7 n w σ p i K tv hi hp hil ht h ho
   | none => exact sk_part_else E ok n h2 w σ p i K tv hi hp hil hn ht ho
  ·intro w σ p pend i iend K tv J M hi hpe hJ hie hM hn ht
   by_cases hpp : p = pend
   ·subst hpp
    exact sk_kids_end E ok n w σ p i iend K tv hi hpe hie (by have := adv_le (well_rows ok.hl) _ _ _ _ hie hM; omega) ht
   ·cases hs : sevOf E.f E.hs p with
    | none => exact sk_kids_one E ok n h1 h2 w σ p pend i iend K tv J M hi hpe hJ hie hM hn ht hpp hs
    | some h => exact sk_kids_sev E ok n h1 h2 w σ p pend i iend K tv J M hi hpe hJ hie hM hn ht hpp h hs
theorem sk_top (E : SkE) (ok : SkOK E) (h7 : ∀ x ∈ E.hs, 1 ≤ x.2 ∧ x.2 ≤ 7) (w : World) (i : Nat) (tv : Value) (hi : SkIn E (startS E.hs) w) (hil : i < E.l.length) (ht : ThenOK E some tv w) :
  Calls Tryz.prog 38 #[.pointer (some ⟨E.g, 0, none⟩), .int .i64 0, .int .i64 (i : Int), tv] w (seekPost E ((aPart E.f E.l E.hs (fuelZ E.f) 0 i (startS E.hs)).head?) (startS E.hs) w) := by
 have h0 := well_zero ok.hf.well
 have := (sk_all E ok h7 (fuelZ E.f)).1 w (startS E.hs) 0 i some tv hi h0.1 hil (by rw [h0.2]; unfold fuelZ; omega) ht
 rw [(s_all E.f E.l E.hs (fuelZ E.f)).1] at this
 have e : ∀ (l : List MSt), l.findSome? some = l.head? := fun l => by cases l <;> simp [List.findSome?_cons]
 rw [e] at this
 exact this
end Go.Proofs.YtlkheofphafofaaGreatDoor
namespace Go.Proofs.YtlkheofphafofaaGreatDoor
set_option linter.all false

def nmXs : ByteArray := ⟨#[120, 115]⟩
def nmYs : ByteArray := ⟨#[121, 115]⟩
def nmS (c : UInt8) : ByteArray := ⟨#[c]⟩
def fixF : List Prt := [(34, 2, ⟨#[]⟩), (26, 0, nmS 102), (11, 3, ⟨#[]⟩), (26, 0, nmXs), (26, 0, nmS 97), (26, 0, nmYs)]
def fixL : List Prt := [(34, 2, ⟨#[]⟩), (26, 0, nmS 102), (11, 4, ⟨#[]⟩), (26, 0, nmS 98), (26, 0, nmS 97), (26, 0, nmS 99), (26, 0, nmS 97)]
def fixH : List Hl := [(nmXs, 6), (nmYs, 6)]
def fixR : RuleM := ⟨nmS 114, 2, fixH, fixF, fixF⟩
theorem fixM_yes : (atZ fixR fixL 0).map (bindsOf fixH) = some [(nmXs, 3, 4), (nmYs, 5, 7)] := by decide +kernel
theorem fixM_no : atZ fixR fixL 1 = none := by decide +kernel
end Go.Proofs.YtlkheofphafofaaGreatDoor
namespace Go.Proofs.YtlkheofphafofaaGreatDoor
set_option linter.all false

end Go.Proofs.YtlkheofphafofaaGreatDoor
