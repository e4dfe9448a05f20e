/- Layer 20 in plain Lean: statements in the place of one. -/
import Derived.Test.YtmklemelgdilkaaDoorStepPMh
import Derived.Test.YtmklemelgdilkaaDoorKpMMh
import Derived.Test.YtmklemelgdilkaaDoorInstWMh
import Derived.Test.YtmklemelgdilkaaDoorGuardPMh
namespace Go.Proofs.YtmklemelgdilkaaDoor
set_option linter.all false

def oneL (c : ByteArray) : List Prt := [(50, 1, ByteArray.empty), (26, 0, c)]
def stmtsL (cs : List ByteArray) : List Prt := cs.flatMap oneL
def byL (cs : List ByteArray) : List Prt := (13, (cs.length : Int), ByteArray.empty) :: stmtsL cs
def rowsRule (cs : List ByteArray) : RuleM := ⟨⟨#[114]⟩, 3, [], oneL ⟨#[122]⟩, byL cs⟩
theorem stmtsL_len : ∀ cs : List ByteArray, (stmtsL cs).length = 2 * cs.length
 | [] => rfl
 | c :: cs => by
  have := stmtsL_len cs
  unfold stmtsL at *
  rw [List.flatMap_cons, List.length_append, this]
  show 2 + _ = _
  rw [List.length_cons]; omega
theorem stmtsL_app (a b : List ByteArray) : stmtsL (a ++ b) = stmtsL a ++ stmtsL b := List.flatMap_append
theorem byL_len (cs : List ByteArray) : (byL cs).length = 1 + 2 * cs.length := by unfold byL; rw [List.length_cons, stmtsL_len]; omega
theorem rows_one (c : ByteArray) {r : List Prt} {ts : List Nat} (h : rowsB r = some ts) : rowsB (oneL c ++ r) = some (2 :: ts) := by
 have h1 := rowsB_cons (p := (26, 0, c)) h (by simp) (by simp)
 simp only [Int.toNat_zero, List.take_zero, List.sum_nil, List.drop_zero] at h1
 have h2 := rowsB_cons (p := (50, 1, ByteArray.empty)) h1 (by simp) (by simp; omega)
 have h3 : rowsB (oneL c ++ r) = some ((1 + (((1 + 0) :: ts).take (1 : Int).toNat).sum) :: ((1 + 0) :: ts).drop (1 : Int).toNat) := h2
 simpa using h3
theorem rows_stmts : ∀ cs : List ByteArray, rowsB (stmtsL cs) = some (List.replicate cs.length 2)
 | [] => rfl
 | c :: cs => by
  have h := rows_one c (rows_stmts cs)
  unfold stmtsL at *
  rw [List.flatMap_cons, h, List.length_cons, List.replicate_succ]
theorem by_well (cs : List ByteArray) : wellB (byL cs) = true := by
 have h := rowsB_cons (p := (13, (cs.length : Int), ByteArray.empty)) (rows_stmts cs) (by simp) (by simp)
 simp only [Int.toNat_natCast, List.drop_replicate, Nat.sub_self, List.replicate_zero] at h
 unfold wellB byL
 rw [h]
theorem one_well (c : ByteArray) : wellB (oneL c) = true := rfl
theorem drop_by (L : List ByteArray) (i : Nat) (hi : i ≤ L.length) : (byL L).drop (1 + 2 * i) = stmtsL (L.drop i) := by
 unfold byL
 rw [Nat.add_comm, List.drop_succ_cons]
 conv => lhs; rw [← List.take_append_drop i L]
 rw [stmtsL_app]
 exact List.drop_left' (by rw [stmtsL_len, List.length_take, Nat.min_eq_left hi])
theorem end_by (L : List ByteArray) (i : Nat) (hi : i < L.length) : endB (byL L) (1 + 2 * i) = 3 + 2 * i := by
 obtain ⟨t, ts, h1, _, h2, _⟩ := rows_at (well_rows (by_well L)) (i := 1 + 2 * i) (by rw [byL_len]; omega)
 rw [drop_by L i (by omega), rows_stmts, List.length_drop] at h1
 obtain ⟨n, hn⟩ : ∃ n, L.length - i = n + 1 := ⟨L.length - i - 1, by omega⟩
 rw [hn, List.replicate_succ] at h1
 simp only [Option.some.injEq, List.cons.injEq] at h1
 omega
theorem end_by2 (L : List ByteArray) (i : Nat) (hi : i < L.length) : endB (byL L) (2 + 2 * i) = 3 + 2 * i := by
 obtain ⟨t, ts, h1, _, h2, _⟩ := rows_at (well_rows (by_well L)) (i := 2 + 2 * i) (by rw [byL_len]; omega)
 have e : (byL L).drop (2 + 2 * i) = (26, 0, L[i]) :: stmtsL (L.drop (i + 1)) := by
  rw [show 2 + 2 * i = (1 + 2 * i) + 1 by omega, ← List.drop_drop, drop_by L i (by omega), List.drop_eq_getElem_cons hi]
  rfl
 have h3 := rowsB_cons (p := (26, 0, L[i])) (rows_stmts (L.drop (i + 1))) (by simp) (by simp)
 rw [e, h3] at h1
 simp at h1
 omega
theorem up_by (L : List ByteArray) (i : Nat) (hi : i < L.length) : upN (byL L) (1 + 2 * i) = 0 := by
 have hw := well_zero (by_well L)
 have := up_of (well_rows (by_well L)) (i := 0) (k := 1 + 2 * i) hw.1 (by omega) (by rw [hw.2, byL_len]; omega) (fun j h1 h2 => by
  rcases Nat.mod_two_eq_zero_or_one j with c | c
  ·obtain ⟨m, rfl⟩ : ∃ m, j = 2 + 2 * m := ⟨j / 2 - 1, by omega⟩
   rw [end_by2 L m (by omega)]; omega
  ·obtain ⟨m, rfl⟩ : ∃ m, j = 1 + 2 * m := ⟨j / 2, by omega⟩
   rw [end_by L m (by omega)]; omega)
 exact this
def calmK (k : Nat) : Prop := k ≠ 37 ∧ k ≠ 35 ∧ k ≠ 36 ∧ ¬ (29 ≤ k ∧ k ≤ 34) ∧ k ≠ 61
theorem guard_calm {l : List Prt} (h : ∀ p ∈ l, calmK p.1) (f : List Int) : (guardZ l f).map (·.1) = l := by
 have hl : ∀ j, looseAt l j = false := by
  intro j
  unfold looseAt
  split
  ·rename_i p _
   have hk : calmK (ptAt l p).1 := by
    unfold ptAt
    by_cases e : p < l.length
    ·have := h _ (List.getElem_mem e)
     simpa [List.getD_eq_getElem?_getD, e] using this
    ·rw [List.getD_eq_getElem?_getD, List.getElem?_eq_none (by omega)]
     exact ⟨by decide, by decide, by decide, by decide, by decide⟩
   obtain ⟨k1, k2, k3, k4, k5⟩ := hk
   unfold looseZ
   rw [if_neg k1, if_neg (by omega), if_neg k4, if_neg k5]
  ·rfl
 unfold guardZ gSeg
 have e : gOne l f = fun j => [pnAt l f j] := by
  funext j
  unfold gOne
  rw [hl j]
  rfl
 rw [e, ← List.map_eq_flatMap, List.map_map]
 apply List.ext_getElem
 ·simp
 ·intro i h1 h2
  simp [pnAt, List.getD_eq_getElem?_getD, h2]
theorem calm13 : calmK 13 := ⟨by decide, by decide, by decide, by decide, by decide⟩
theorem calm50 : calmK 50 := ⟨by decide, by decide, by decide, by decide, by decide⟩
theorem calm26 : calmK 26 := ⟨by decide, by decide, by decide, by decide, by decide⟩
theorem calm_by (L : List ByteArray) : ∀ p ∈ byL L, calmK p.1 := by
 intro p hp
 unfold byL stmtsL at hp
 rcases List.mem_cons.1 hp with rfl | hp
 ·exact calm13
 ·obtain ⟨c, _, hc⟩ := List.mem_flatMap.1 hp
  unfold oneL at hc
  simp at hc
  rcases hc with rfl | rfl
  ·exact calm50
  ·exact calm26
theorem rows_made (cs : List ByteArray) (l : List Prt) : (outP (rowsRule cs) l []).map (·.1) = stmtsL cs := by
 have hn : ∀ p, holeOf (byL cs) [] p = none := fun p => rfl
 have h1 := (m_inst (byL cs) l [] (bOf []) (bOf_in (bs := []) (fun x hx => by cases hx)) (fuelZ (byL cs))).1 0
 have h2 := inst_self (by_well cs) hn (fun h => piece l (bOf [] h).1 (bOf [] h).2)
 have h3 : (madeP (rowsRule cs) l []).map (·.1) = byL cs := h1.trans h2
 unfold outP
 rw [if_pos (show (rowsRule cs).goal = 3 from rfl), List.map_drop, h3]
 rfl
theorem rows_trees (cs : List ByteArray) (l : List Prt) : treesP (rowsRule cs) l [] = (cs.length : Int) := by
 unfold treesP
 rw [rows_made, treesZ_of (rows_stmts cs), List.length_replicate]
theorem rows_len (cs : List ByteArray) (l : List Prt) : (outP (rowsRule cs) l []).length = 2 * cs.length := by
 have := congrArg List.length (rows_made cs l)
 rw [List.length_map, stmtsL_len] at this
 exact this
def NameP (c : ByteArray) : Prop := partB (26, 0, c) = true
theorem rows_rule {cs : List ByteArray} (h : ∀ c ∈ cs, NameP c) : ruleZ (rowsRule cs) = 0 := by
 have hb : checkB (byL cs) = true := by
  unfold checkB
  rw [by_well, Bool.true_and, List.all_eq_true]
  intro p hp
  unfold byL stmtsL at hp
  rcases List.mem_cons.1 hp with rfl | hp
  ·unfold partB
   have e : arL 13 = (0, true) := rfl
   have e2 : sptB 13 ByteArray.empty = true := by decide +kernel
   simp only [e, e2]
   simp
  ·obtain ⟨c, hc, hm⟩ := List.mem_flatMap.1 hp
   unfold oneL at hm
   simp at hm
   rcases hm with rfl | rfl
   ·decide +kernel
   ·exact h c hc
 have hf : checkB (oneL ⟨#[122]⟩) = true := by decide +kernel
 have ht : ruleTop (rowsRule cs) = true := by
  unfold ruleTop rowsRule
  simp only [hb, hf]
  have e1 : name ⟨#[114]⟩ = true := by decide +kernel
  have e2 : kindAt (byL cs) 0 = 13 := rfl
  rw [e1, e2]
  simp
 unfold ruleZ
 rw [if_neg (by rw [ht]; decide), if_neg (by unfold rowsRule sevN; simp), if_pos (fun i hi => by unfold rowsRule at hi; simp at hi)]
theorem rows_right (cs : List ByteArray) (l : List Prt) : rightB (rowsRule cs) l [] = true := rfl
theorem rows_err {cs : List ByteArray} (h : ∀ c ∈ cs, NameP c) {l : List Prt} (hl : wellB l = true) : findErr [rowsRule cs] l = 0 := by
 rw [findErr_zero]
 refine ⟨hl, by simp, fun r hr => ?_⟩
 obtain rfl := List.mem_singleton.1 hr
 exact rows_rule h
theorem step_rows {X Y cs : List ByteArray} (z : ByteArray) (h : ∀ c ∈ cs, NameP c) (hX : X.length ≤ 1000) (hY : Y.length ≤ 1000) (hc : cs.length ≤ 1000) :
  ∃ a, stepZ [rowsRule cs] (byL (X ++ z :: Y)) [(0, ((1 + 2 * X.length : Nat) : Int), [])] = (a, 0) ∧ a.map (·.1) = byL (X ++ cs ++ Y) := by
 have hlen : (X ++ z :: Y).length = X.length + 1 + Y.length := by rw [List.length_append, List.length_cons]; omega
 have hi : X.length < (X ++ z :: Y).length := by omega
 have hll : (byL (X ++ z :: Y)).length = 1 + 2 * (X.length + 1 + Y.length) := by rw [byL_len, hlen]
 have he := end_by (X ++ z :: Y) X.length hi
 have hu := up_by (X ++ z :: Y) X.length hi
 have hwl := by_well (X ++ z :: Y)
 have hl := well_rows hwl
 have hlo := rows_len cs (byL (X ++ z :: Y))
 have hmk : mksOf [rowsRule cs] (byL (X ++ z :: Y)) [(0, ((1 + 2 * X.length : Nat) : Int), [])] = [(1 + 2 * X.length, outP (rowsRule cs) (byL (X ++ z :: Y)) [], (cs.length : Int) - 1)] := by
  unfold mksOf
  rw [List.map_cons, List.map_nil, mkOf_of (r := rowsRule cs) rfl, rows_trees, Int.toNat_natCast]
 have hse : stepErr [rowsRule cs] (byL (X ++ z :: Y)) [(0, ((1 + 2 * X.length : Nat) : Int), [])] 0 (byL (X ++ z :: Y)).length = 0 := by
  rw [stepErr, if_neg (by simp [hll]; omega)]
  show (if rightB (rowsRule cs) (byL (X ++ z :: Y)) [] = false then (1 : Int) else _) = 0
  rw [if_neg (by rw [rows_right]; decide), if_neg (by rw [hlo]; omega), Int.toNat_natCast, hu, if_neg (fun c => by
   rcases c.2 with c | c
   ·omega
   ·exact c rfl), stepErr, if_neg (by rw [he, hlo, hll]; omega)]
 have hmore : ∀ (m : List PN) (d : Int) i, moreAt (byL (X ++ z :: Y)) [(1 + 2 * X.length, m, d)] i = if i = 0 then d else 0 := fun m d i => by
  rw [moreAt, moreAt, hu]
  by_cases e : i = 0
  ·subst e; simp
  ·rw [if_neg (fun c => e (by have := c.2; omega)), if_neg e]; rfl
 have hst : ∀ (m : List PN) (d : Int) a b, 1 ≤ a → b ≤ (byL (X ++ z :: Y)).length → (stays (byL (X ++ z :: Y)) [(1 + 2 * X.length, m, d)] a b).map (·.1) = piece (byL (X ++ z :: Y)) a b := fun m d a b h1 h2 => by
  unfold stays piece
  rw [List.map_map]
  apply List.ext_getElem
  ·simp; omega
  ·intro k g1 g2
   simp at g1
   have hk : a + k < (byL (X ++ z :: Y)).length := by omega
   simp only [List.getElem_map, List.getElem_range', List.getElem_take, List.getElem_drop, Function.comp_apply, Nat.one_mul]
   unfold stayN
   rw [hmore, if_neg (by omega)]
   simp [ptAt, List.getD_eq_getElem?_getD, hk]
 have hso : (stepOut [rowsRule cs] (byL (X ++ z :: Y)) [(0, ((1 + 2 * X.length : Nat) : Int), [])]).map (·.1) = byL (X ++ cs ++ Y) := by
  unfold stepOut
  rw [hmk]
  obtain ⟨n', e1, e2⟩ := outGo_to (byL (X ++ z :: Y)) [(1 + 2 * X.length, outP (rowsRule cs) (byL (X ++ z :: Y)) [], (cs.length : Int) - 1)] hl ((byL (X ++ z :: Y)).length + 1) 0 (1 + 2 * X.length) (outP (rowsRule cs) (byL (X ++ z :: Y)) []) ((cs.length : Int) - 1) [] (by omega) (by rw [hll]; omega) (by omega)
  rw [e2, outGo_end _ _ _ _ e1, List.map_append, List.map_append, rows_made, hst _ _ _ _ (by rw [he]; omega) (Nat.le_refl _), he, stays_cons _ _ (show 0 < 1 + 2 * X.length by omega), List.map_cons, hst _ _ _ _ (by omega) (by rw [hll]; omega)]
  have p1 : piece (byL (X ++ z :: Y)) (0 + 1) (1 + 2 * X.length) = stmtsL X := by
   unfold piece
   have := drop_by (X ++ z :: Y) 0 (Nat.zero_le _)
   rw [show 0 + 1 = 1 + 2 * 0 by rfl, this, List.drop_zero, stmtsL_app]
   exact List.take_left' (by rw [stmtsL_len]; omega)
  have p2 : piece (byL (X ++ z :: Y)) (3 + 2 * X.length) (byL (X ++ z :: Y)).length = stmtsL Y := by
   unfold piece
   have := drop_by (X ++ z :: Y) (X.length + 1) (by omega)
   rw [show 3 + 2 * X.length = 1 + 2 * (X.length + 1) by omega, this, show X ++ z :: Y = (X ++ [z]) ++ Y by simp, List.drop_left' (by simp)]
   exact List.take_of_length_le (by rw [stmtsL_len, byL_len]; simp; omega)
  rw [p1, p2]
  have e0 : (stayN (byL (X ++ z :: Y)) [(1 + 2 * X.length, outP (rowsRule cs) (byL (X ++ z :: Y)) [], (cs.length : Int) - 1)] 0).1 = (13, ((X ++ cs ++ Y).length : Int), ByteArray.empty) := by
   unfold stayN
   rw [hmore, if_pos rfl]
   show ((13, ((X ++ z :: Y).length : Int) + ((cs.length : Int) - 1), ByteArray.empty) : Prt) = _
   rw [show ((X ++ z :: Y).length : Int) + ((cs.length : Int) - 1) = ((X ++ cs ++ Y).length : Int) by rw [hlen, List.length_append, List.length_append]; push_cast; omega]
  rw [e0]
  show _ = (13, ((X ++ cs ++ Y).length : Int), ByteArray.empty) :: stmtsL (X ++ cs ++ Y)
  rw [stmtsL_app, stmtsL_app, List.cons_append, List.append_assoc (stmtsL X)]
 refine ⟨guardZ ((stepOut [rowsRule cs] (byL (X ++ z :: Y)) [(0, ((1 + 2 * X.length : Nat) : Int), [])]).map (·.1)) ((stepOut [rowsRule cs] (byL (X ++ z :: Y)) [(0, ((1 + 2 * X.length : Nat) : Int), [])]).map (·.2)), ?_, ?_⟩
 ·unfold stepZ
  rw [if_neg (by rw [rows_err h hwl]; simp), if_neg (by rw [hse]; simp)]
  unfold withZ
  rw [if_pos (by rw [hso]; exact by_well _)]
 ·rw [guard_calm (by rw [hso]; exact calm_by _), hso]
theorem step_root {cs : List ByteArray} (c : ByteArray) (h : ∀ c ∈ cs, NameP c) (hc : cs.length ≤ 1000) : (stepZ [rowsRule cs] (oneL c) [(0, 0, [])]).2 = if cs.length = 1 then 0 else 12 := by
 have hlo := rows_len cs (oneL c)
 have hend : endB (oneL c) 0 = 2 := rfl
 have hrr := rows_right cs (oneL c)
 have hrt := rows_trees cs (oneL c)
 unfold stepZ
 rw [if_neg (by rw [rows_err h (one_well c)]; simp)]
 have hse : stepErr [rowsRule cs] (oneL c) [(0, 0, [])] 0 (oneL c).length = if cs.length = 1 then 0 else 12 := by
  rw [stepErr, if_neg (by unfold oneL; simp)]
  show (if rightB (rowsRule cs) (oneL c) [] = false then (1 : Int) else _) = _
  rw [if_neg (by rw [hrr]; decide), if_neg (by rw [hlo]; omega), hrt]
  by_cases e : cs.length = 1
  ·rw [if_neg (fun g => g.1 (by rw [e]; rfl)), if_pos e, stepErr, if_neg]
   rw [hlo, e]
   show ¬ (131072 : Int) < ((2 : Nat) : Int) + ((2 * 1 : Nat) : Int) - (((2 : Nat) : Int) - 0)
   omega
  ·rw [if_pos ⟨by omega, Or.inl rfl⟩, if_neg e]
 rw [hse]
 by_cases e : cs.length = 1
 ·rw [if_pos e, if_neg (by simp)]
  match cs, e with
  | [d], _ =>
   have hso : (stepOut [rowsRule [d]] (oneL c) [(0, 0, [])]).map (·.1) = oneL d := by
    unfold stepOut mksOf
    rw [List.map_cons, List.map_nil, mkOf_of (r := rowsRule [d]) rfl, rows_trees]
    show (outGo (oneL c) _ (2 + 1) 0 [(0, outP (rowsRule [d]) (oneL c) [], _)]).map (·.1) = _
    rw [outGo, if_pos (by unfold oneL; simp), if_pos rfl, hend, outGo, if_neg (by unfold oneL; simp), List.append_nil, rows_made]
    rfl
   unfold withZ
   rw [if_pos (by rw [hso]; exact one_well d)]
 ·rw [if_neg e, if_pos (by simp)]
end Go.Proofs.YtmklemelgdilkaaDoor
namespace Go.Proofs.YtmklemelgdilkaaDoor
set_option linter.all false
open Go Go.RowKit

structure CpE where
 l : List Prt
 fr : List Int
 g : Nat
 B : Nat
 T : TypeId
 vl : Value
 vf : Value
def cpB (E : CpE) (ov nv : Value) (i : Nat) (W : World) : Prop := W.heap[E.g]? = some (.cells #[E.vl, E.vf, ov, nv, .int .i64 (i : Int)] E.T (0, 0))
theorem cpB.cells {E : CpE} {ov nv : Value} {i : Nat} {W : World} (h : cpB E ov nv i W) : W.cell? ⟨E.g, 0, none⟩ = some E.vl ∧ W.cell? ⟨E.g, 1, none⟩ = some E.vf ∧ W.cell? ⟨E.g, 2, none⟩ = some ov ∧ W.cell? ⟨E.g, 3, none⟩ = some nv ∧ W.cell? ⟨E.g, 4, none⟩ = some (.int .i64 (i : Int)) ∧ ∀ j, W.frozen? ⟨E.g, j, none⟩ = false := by
 unfold cpB at h
 simp [World.cell?, World.frozen?, h]
theorem cpB.set {E : CpE} {ov nv : Value} {i : Nat} {W : World} (h : cpB E ov nv i W) : (∀ v, cpB E v nv i (W.setCell ⟨E.g, 2, none⟩ v)) ∧ (∀ v, cpB E ov v i (W.setCell ⟨E.g, 3, none⟩ v)) ∧ (∀ j : Nat, cpB E ov nv j (W.setCell ⟨E.g, 4, none⟩ (.int .i64 (j : Int)))) := by
 unfold cpB at *
 refine ⟨fun v => ?_, fun v => ?_, fun j => ?_⟩
 ·exact heap_setCell_same W E.g 2 _ _ v h
 ·exact heap_setCell_same W E.g 3 _ _ v h
 ·exact heap_setCell_same W E.g 4 _ _ (.int .i64 (j : Int)) h
structure CpIn (w0 : World) (E : CpE) (out : List Prt) (ns : List Int) (i : Nat) (ov nv : Value) (W : World) : Prop where
 b : Below w0.heap.size w0 W
 s : cpB E ov nv i W
 o : W.ownsRow E.B 38 3 ov out.length (partsV out)
 f : W.ownsRow E.B 3 1 nv ns.length (intsV ns)
 g0 : w0.heap.size ≤ E.g
 gB : E.g < E.B
 B : E.B ≤ W.heap.size
theorem CpIn.below {w0 W W' : World} {E : CpE} {out : List Prt} {ns : List Int} {i : Nat} {ov nv : Value} (h : CpIn w0 E out ns i ov nv W) (hb : Below W.heap.size W W') : CpIn w0 E out ns i ov nv W' :=
 ⟨bthen h.b hb, keeps hb h.s, owns_below h.o hb, owns_below h.f hb, h.g0, h.gB, by have := h.B; have := hb.size; omega⟩
theorem ownsG {W : World} {B g : Nat} {e : TypeId} {size n : Nat} {v : Value} {xs : List Value} (h : W.ownsRow B e size v n xs) (hg : g < B) (j : Nat) (u : Value) : (W.setCell ⟨g, j, none⟩ u).ownsRow B e size v n xs :=
 ownsRow_setCell_other h (a := ⟨g, j, none⟩) (fun e => by have := (h.lt g e).1; omega) u
theorem CpIn.step {w0 W : World} {E : CpE} {out : List Prt} {ns : List Int} {i : Nat} {ov nv : Value} (h : CpIn w0 E out ns i ov nv W) (j : Nat) : CpIn w0 E out ns j ov nv (W.setCell ⟨E.g, 4, none⟩ (.int .i64 (j : Int))) :=
 ⟨h.b.setCell (p := ⟨E.g, 4, none⟩) h.g0 _, h.s.set.2.2 j, ownsG h.o h.gB _ _, ownsG h.f h.gB _ _, h.g0, h.gB, by simpa using h.B⟩
structure KpC (g : Nat) (ov nv ov' nv' : Value) (W W' : World) : Prop where
 os : W'.os = W.os
 tape : W'.tape = W.tape
 output : W'.output = W.output
 size : W.heap.size ≤ W'.heap.size
 low : ∀ k, k < W.heap.size → k ≠ g → ov.ownBlock ≠ some k → nv.ownBlock ≠ some k → W'.heap[k]? = W.heap[k]?
 no : ∀ k, ov'.ownBlock = some k → ov.ownBlock = some k ∨ W.heap.size ≤ k
 nn : ∀ k, nv'.ownBlock = some k → nv.ownBlock = some k ∨ W.heap.size ≤ k
theorem KpC.refl (g : Nat) (ov nv : Value) (W : World) : KpC g ov nv ov nv W W := ⟨rfl, rfl, rfl, Nat.le_refl _, fun _ _ _ _ _ => rfl, fun _ h => Or.inl h, fun _ h => Or.inl h⟩
theorem KpC.trans {g : Nat} {o1 n1 o2 n2 o3 n3 : Value} {a b c : World} (h : KpC g o1 n1 o2 n2 a b) (k : KpC g o2 n2 o3 n3 b c) : KpC g o1 n1 o3 n3 a c :=
 ⟨k.os.trans h.os, k.tape.trans h.tape, k.output.trans h.output, Nat.le_trans h.size k.size, fun i h1 h2 h3 h4 => (k.low i (Nat.lt_of_lt_of_le h1 h.size) h2 (fun e => by
   rcases h.no i e with e | e
   ·exact h3 e
   ·omega) (fun e => by
   rcases h.nn i e with e | e
   ·exact h4 e
   ·omega)).trans (h.low i h1 h2 h3 h4), fun i e => by
   rcases k.no i e with e | e
   ·exact h.no i e
   ·exact Or.inr (Nat.le_trans h.size e), fun i e => by
   rcases k.nn i e with e | e
   ·exact h.nn i e
   ·exact Or.inr (Nat.le_trans h.size e)⟩
theorem KpC.of_below {g : Nat} {ov nv : Value} {W W' : World} (h : Below W.heap.size W W') : KpC g ov nv ov nv W W' := ⟨h.os, h.tape, h.output, h.size, fun k hk _ _ _ => h.block k hk, fun _ e => Or.inl e, fun _ e => Or.inl e⟩
theorem KpC.setG {g : Nat} {o1 n1 o2 n2 : Value} {a W : World} (h : KpC g o1 n1 o2 n2 a W) (j : Nat) (v : Value) : KpC g o1 n1 o2 n2 a (W.setCell ⟨g, j, none⟩ v) :=
 ⟨h.os, h.tape, h.output, by have := h.size; simpa using this, fun k h1 h2 h3 h4 => by rw [heap_setCell_other _ _ _ _ h2]; exact h.low k h1 h2 h3 h4, h.no, h.nn⟩
theorem KpC.cell {g : Nat} {ov nv ov' nv' : Value} {W W' : World} (h : KpC g ov nv ov' nv' W W') {k o : Nat} (hk : k < W.heap.size) (h1 : k ≠ g) (h2 : ov.ownBlock ≠ some k) (h3 : nv.ownBlock ≠ some k) : W'.cell? ⟨k, o, none⟩ = W.cell? ⟨k, o, none⟩ := by
 simp only [World.cell?, h.low k hk h1 h2 h3]
theorem CpIn.part {w0 W : World} {E : CpE} {out : List Prt} {ns : List Int} {i : Nat} {ov nv : Value} (h : CpIn w0 E out ns i ov nv W) (p : Prt) (hn : out.length ≤ 1000000000) :
  ∃ v1 w1, (Builtin.append_ #[23, 23] 23 #[ov, .slice (some ⟨W.heap.size, 0, none⟩) 1 1]).run Tryd.prog (W.alloc (.cells #[.int .u8 (p.1 : Int), .int .i64 p.2.1, .string p.2.2] 38)) = .ok v1 w1 ∧ cpB E ov nv i w1 ∧ CpIn w0 E (out ++ [p]) ns i v1 nv (w1.setCell ⟨E.g, 2, none⟩ v1) ∧ KpC E.g ov nv v1 nv W (w1.setCell ⟨E.g, 2, none⟩ v1) := by
 have hBs := h.B
 obtain ⟨v1, w1, r1, o1, g1, p1⟩ := append_lit_eq (P := Tryd.prog) W #[.int .u8 (p.1 : Int), .int .i64 p.2.1, .string p.2.2] 38 23 23 38 Tryd.underlying23 E.B Tinfo_part rfl (by decide) ov out.length _ h.o 1 1 rfl (Nat.le_refl _) (by intro u hu; simp at hu; rcases hu with rfl | rfl | rfl <;> rfl) (by omega) (by omega) hBs
 have oa := h.o.alloc (.cells #[.int .u8 (p.1 : Int), .int .i64 p.2.1, .string p.2.2] 38)
 have hBa : E.B ≤ (W.alloc (.cells #[.int .u8 (p.1 : Int), .int .i64 p.2.1, .string p.2.2] 38)).heap.size := by simp; omega
 have k1 := ((KpM.refl E.B E.g W).alloc hBs (.cells #[.int .u8 (p.1 : Int), .int .i64 p.2.1, .string p.2.2] 38)).grown oa hBa g1
 have f1 := row_other oa g1 (h.f.alloc (.cells #[.int .u8 (p.1 : Int), .int .i64 p.2.1, .string p.2.2] 38)) (by decide)
 have hgl := keeps_lt h.s
 have s1 : cpB E ov nv i w1 := by
  unfold cpB
  rw [g1.block E.g (by simp; omega) (fun e => by have := (oa.lt E.g e.symm).1; have := h.gB; omega), Below.heap_alloc _ _ _ hgl]
  exact h.s
 have hb1 : Below w0.heap.size w0 w1 := k1.below h.b (by have := h.g0; have := h.gB; omega) h.g0
 have kc : KpC E.g ov nv v1 nv W w1 := ⟨g1.os, g1.tape, g1.output, k1.size, fun k h1 h2 h3 _ => by rw [g1.block k (by simp; omega) (fun e => h3 e.symm), Below.heap_alloc _ _ _ h1], fun k e => by
  rcases p1 with q | q
  ·exact Or.inl (q ▸ e)
  ·rw [q] at e; have := Option.some.inj e; exact Or.inr (by omega), fun _ e => Or.inl e⟩
 refine ⟨v1, w1, r1, s1, ⟨hb1.setCell (p := ⟨E.g, 2, none⟩) h.g0 _, s1.set.1 v1, ?_, ownsG f1 h.gB _ _, h.g0, h.gB, by have := k1.size; simp; omega⟩, kc.setG _ _⟩
 rw [List.length_append, partsV_append]
 exact ownsG o1 h.gB _ _
theorem CpIn.num {w0 W : World} {E : CpE} {out : List Prt} {ns : List Int} {i : Nat} {ov nv : Value} (h : CpIn w0 E out ns i ov nv W) (z : Int) (hn : ns.length ≤ 1000000000) :
  ∃ v1 w1, (Builtin.append_ #[27, 27] 27 #[nv, .slice (some ⟨W.heap.size, 0, none⟩) 1 1]).run Tryd.prog (W.alloc (.cells #[.int .i64 z] 3)) = .ok v1 w1 ∧ cpB E ov nv i w1 ∧ CpIn w0 E out (ns ++ [z]) i ov v1 (w1.setCell ⟨E.g, 3, none⟩ v1) ∧ KpC E.g ov nv ov v1 W (w1.setCell ⟨E.g, 3, none⟩ v1) := by
 have hBs := h.B
 obtain ⟨v1, w1, r1, f1, g1, p1⟩ := append_lit_eq (P := Tryd.prog) W #[.int .i64 z] 3 27 27 3 Tryd.underlying27 E.B Tinfo_int rfl (by decide) nv ns.length _ h.f 1 1 rfl (Nat.le_refl _) (by intro u hu; simp at hu; subst hu; rfl) (by omega) (by omega) hBs
 have fa := h.f.alloc (.cells #[.int .i64 z] 3)
 have hBa : E.B ≤ (W.alloc (.cells #[.int .i64 z] 3)).heap.size := by simp; omega
 have k1 := ((KpM.refl E.B E.g W).alloc hBs (.cells #[.int .i64 z] 3)).grown fa hBa g1
 have o1 := row_other fa g1 (h.o.alloc (.cells #[.int .i64 z] 3)) (by decide)
 have hgl := keeps_lt h.s
 have s1 : cpB E ov nv i w1 := by
  unfold cpB
  rw [g1.block E.g (by simp; omega) (fun e => by have := (fa.lt E.g e.symm).1; have := h.gB; omega), Below.heap_alloc _ _ _ hgl]
  exact h.s
 have hb1 : Below w0.heap.size w0 w1 := k1.below h.b (by have := h.g0; have := h.gB; omega) h.g0
 have kc : KpC E.g ov nv ov v1 W w1 := ⟨g1.os, g1.tape, g1.output, k1.size, fun k h1 h2 _ h3 => by rw [g1.block k (by simp; omega) (fun e => h3 e.symm), Below.heap_alloc _ _ _ h1], fun _ e => Or.inl e, fun k e => by
  rcases p1 with q | q
  ·exact Or.inl (q ▸ e)
  ·rw [q] at e; have := Option.some.inj e; exact Or.inr (by omega)⟩
 refine ⟨v1, w1, r1, s1, ⟨hb1.setCell (p := ⟨E.g, 3, none⟩) h.g0 _, s1.set.2.1 v1, ownsG o1 h.gB _ _, ?_, h.g0, h.gB, by have := k1.size; simp; omega⟩, kc.setG _ _⟩
 rw [List.length_append, intsV_app]
 exact ownsG f1 h.gB _ _
end Go.Proofs.YtmklemelgdilkaaDoor
