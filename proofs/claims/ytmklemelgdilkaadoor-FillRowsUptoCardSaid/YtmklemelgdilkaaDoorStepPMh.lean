/- Layer 20 in plain Lean: what a rule makes, and a list with picks made. -/
import Derived.Test.YtmklemelgdilkaaDoorInstPMh
namespace Go.Proofs.YtmklemelgdilkaaDoor
set_option linter.all false

def okB (l : List Prt) (h : Hl) (b : Bnd) : Bool :=
 decide (b.1 = h.1) && (decide (0 ≤ b.2.1 ∧ b.2.1 ≤ b.2.2 ∧ b.2.2 ≤ l.length) && (decide (0 ≤ treesZ (piece l b.2.1.toNat b.2.2.toNat)) && (isSev h.2 || (decide (treesZ (piece l b.2.1.toNat b.2.2.toNat) = 1) && mayB h.2 (kindAt l b.2.1.toNat)))))
def rightB (r : RuleM) (l : List Prt) (bs : List Bnd) : Bool := decide (bs.length = r.holes.length) && (r.holes.zip bs).all fun x => okB l x.1 x.2
theorem rightB_iff {r : RuleM} {l : List Prt} {bs : List Bnd} : rightB r l bs = true ↔ bs.length = r.holes.length ∧ ∀ h (hh : h < r.holes.length) (hb : h < bs.length), okB l r.holes[h] bs[h] = true := by
 unfold rightB
 rw [Bool.and_eq_true, decide_eq_true_eq, List.all_eq_true]
 constructor
 ·rintro ⟨h1, h2⟩
  refine ⟨h1, fun h hh hb => ?_⟩
  exact h2 (r.holes[h], bs[h]) (List.mem_iff_getElem.2 ⟨h, by rw [List.length_zip]; omega, by rw [List.getElem_zip]⟩)
 ·rintro ⟨h1, h2⟩
  refine ⟨h1, fun x hx => ?_⟩
  obtain ⟨h, hl, rfl⟩ := List.mem_iff_getElem.1 hx
  rw [List.length_zip] at hl
  rw [List.getElem_zip]
  exact h2 h (by omega) (by omega)
theorem okB_inv {l : List Prt} {h : Hl} {b : Bnd} (hb : okB l h b = true) : b.1 = h.1 ∧ (0 ≤ b.2.1 ∧ b.2.1 ≤ b.2.2 ∧ b.2.2 ≤ l.length) ∧ 0 ≤ treesZ (piece l b.2.1.toNat b.2.2.toNat) ∧ (isSev h.2 = false → treesZ (piece l b.2.1.toNat b.2.2.toNat) = 1 ∧ mayB h.2 (kindAt l b.2.1.toNat) = true) := by
 unfold okB at hb
 simp only [Bool.and_eq_true, decide_eq_true_eq, Bool.or_eq_true] at hb
 refine ⟨hb.1, hb.2.1, hb.2.2.1, fun hs => ?_⟩
 rcases hb.2.2.2 with h1 | h1
 ·rw [hs] at h1; cases h1
 ·exact h1
theorem right_in {r : RuleM} {l : List Prt} {bs : List Bnd} (h : rightB r l bs = true) : BindsIn bs l := by
 obtain ⟨h1, h2⟩ := rightB_iff.1 h
 intro x hx
 obtain ⟨k, hk, rfl⟩ := List.mem_iff_getElem.1 hx
 exact (okB_inv (h2 k (by omega) hk)).2.1
def madeP (r : RuleM) (l : List Prt) (bs : List Bnd) : List PN := mPart r.by' l r.holes (bOf bs) (fuelZ r.by') 0
def outP (r : RuleM) (l : List Prt) (bs : List Bnd) : List PN := if r.goal = 3 then (madeP r l bs).drop 1 else madeP r l bs
def treesP (r : RuleM) (l : List Prt) (bs : List Bnd) : Int := treesZ ((outP r l bs).map (·.1))
abbrev Pk := Int × Int × List Bnd
def stepErr (rules : List RuleM) (l : List Prt) : List Pk → Int → Int → Int
 | [], _, size => if 131072 < size then 2 else 0
 | (n, x, bs) :: P, free, size =>
  if n < 0 ∨ rules.length ≤ n ∨ x < free ∨ l.length ≤ x then 1 else match rules[n.toNat]? with
  | none => 1
  | some r => if rightB r l bs = false then 1 else if 131072 < (outP r l bs).length then 2
   else if treesP r l bs ≠ 1 ∧ (x = 0 ∨ kindU l (upN l x.toNat) ≠ 13) then 12
   else stepErr rules l P (endB l x.toNat) (size + (outP r l bs).length - ((endB l x.toNat : Int) - x))
def mkOf (rules : List RuleM) (l : List Prt) (p : Pk) : Mk := match rules[p.1.toNat]? with
 | some r => (p.2.1.toNat, outP r l p.2.2, treesP r l p.2.2 - 1)
 | none => (p.2.1.toNat, [], 0)
def mksOf (rules : List RuleM) (l : List Prt) (P : List Pk) : List Mk := P.map (mkOf rules l)
def stepOut (rules : List RuleM) (l : List Prt) (P : List Pk) : List PN := outGo l (mksOf rules l P) (l.length + 1) 0 (mksOf rules l P)
def withZ (o : List PN) : List PN × Int := if wellB (o.map (·.1)) = true then (guardZ (o.map (·.1)) (o.map (·.2)), 0) else ([], 8)
def stepZ (rules : List RuleM) (l : List Prt) (P : List Pk) : List PN × Int :=
 if findErr rules l ≠ 0 then ([], findErr rules l) else if stepErr rules l P 0 l.length ≠ 0 then ([], stepErr rules l P 0 l.length) else withZ (stepOut rules l P)
theorem stepErr_cons {rules : List RuleM} {l : List Prt} {n x : Int} {bs : List Bnd} {P : List Pk} {free size : Int} (h : stepErr rules l ((n, x, bs) :: P) free size = 0) :
  0 ≤ n ∧ free ≤ x ∧ x < l.length ∧ ∃ r, rules[n.toNat]? = some r ∧ rightB r l bs = true ∧ (outP r l bs).length ≤ 131072 ∧ ¬ (treesP r l bs ≠ 1 ∧ (x = 0 ∨ kindU l (upN l x.toNat) ≠ 13)) ∧ stepErr rules l P (endB l x.toNat) (size + (outP r l bs).length - ((endB l x.toNat : Int) - x)) = 0 := by
 rw [stepErr] at h
 split at h
 ·cases h
 ·rename_i h1
  cases hr : rules[n.toNat]? with
  | none => rw [hr] at h; cases h
  | some r =>
   rw [hr] at h
   simp only [] at h
   split at h
   ·cases h
   ·rename_i h2
    split at h
    ·cases h
    ·rename_i h3
     split at h
     ·cases h
     ·rename_i h4
      exact ⟨by omega, by omega, by omega, r, rfl, by simpa using h2, by omega, h4, h⟩
theorem mkOf_of {rules : List RuleM} {l : List Prt} {n x : Int} {bs : List Bnd} {r : RuleM} (h : rules[n.toNat]? = some r) : mkOf rules l (n, x, bs) = (x.toNat, outP r l bs, treesP r l bs - 1) := by
 unfold mkOf
 simp only []
 rw [h]
theorem step_free {rules : List RuleM} {l : List Prt} : ∀ {P : List Pk} {free : Nat} {size : Int}, stepErr rules l P free size = 0 → Free l free (mksOf rules l P)
 | [], _, _, _ => trivial
 | (n, x, bs) :: P, free, size, h => by
  obtain ⟨h1, h2, h3, r, hr, _, _, _, h4⟩ := stepErr_cons h
  unfold mksOf
  rw [List.map_cons, mkOf_of hr]
  exact ⟨by omega, by omega, step_free h4⟩
section
variable {t l : List Prt} {hs : List Hl} {b : Nat → Nat × Nat}
end
section
variable (l : List Prt) (all : List Mk)
theorem outGo_mem {us : List Nat} (hl : rowsB l = some us) : ∀ (n i : Nat) (P : List Mk), ∀ y ∈ outGo l all n i P, (∃ j, j < l.length ∧ y = stayN l all j) ∨ ∃ p ∈ P, y ∈ p.2.1
 | 0, i, P, y, h => by rw [outGo] at h; cases h
 | n + 1, i, [], y, h => by
  rw [outGo] at h
  split at h
  ·rename_i hi
   rcases List.mem_cons.1 h with rfl | h
   ·exact Or.inl ⟨i, hi, rfl⟩
   ·rcases outGo_mem hl n (i + 1) [] y h with g | ⟨p, hp, _⟩
    ·exact Or.inl g
    ·cases hp
  ·cases h
 | n + 1, i, (x, m, d) :: R, y, h => by
  rw [outGo] at h
  split at h
  ·rename_i hi
   split at h
   ·rcases List.mem_append.1 h with h | h
    ·exact Or.inr ⟨(x, m, d), by simp, h⟩
    ·rcases outGo_mem hl n (endB l i) R y h with g | ⟨p, hp, g⟩
     ·exact Or.inl g
     ·exact Or.inr ⟨p, by simp [hp], g⟩
   ·rcases List.mem_cons.1 h with rfl | h
    ·exact Or.inl ⟨i, hi, rfl⟩
    ·exact outGo_mem hl n (i + 1) _ y h
  ·cases h
end
end Go.Proofs.YtmklemelgdilkaaDoor
namespace Go.Proofs.YtmklemelgdilkaaDoor
set_option linter.all false

theorem adv_of {l : List Prt} {b : Nat} : ∀ {n a : Nat}, (∀ k, k < n → kidAt l k a < b) → advT l n a b = some (kidAt l n a)
 | 0, a, _ => by rw [advT]; rfl
 | n + 1, a, h => by
  have h0 : a < b := h 0 (by omega)
  rw [advT, if_pos h0, kidAt]
  exact adv_of fun k hk => h (k + 1) (by omega)
theorem trees_go {l : List Prt} {us : List Nat} (hl : rowsB l = some us) {a b n : Nat} (hab : a ≤ b) (hb : b ≤ l.length) (hlt : ∀ k, k < n → kidAt l k a < b) (hge : b ≤ kidAt l n a) :
  (kidAt l n a = b → treesZ (piece l a b) = (n : Int)) ∧ (kidAt l n a ≠ b → treesZ (piece l a b) = -1) := by
 have hn := adv_of hlt
 constructor
 ·intro e
  rw [e] at hn
  obtain ⟨ts, h1, h2⟩ := adv_rows hl n a b hb hn
  rw [treesZ_of h1, h2]
 ·intro e
  unfold treesZ
  cases h : rowsB (piece l a b) with
  | none => rfl
  | some ts =>
   exfalso
   have hpl := piece_len hab hb
   have h1 := adv_row hl hb ts (piece l a b) (l.drop b) a h (drop_piece hab) (by omega)
   rw [hpl, show a + (b - a) = b by omega] at h1
   rcases Nat.lt_trichotomy ts.length n with c | c | c
   ·have := hlt _ c
    rw [adv_kid h1] at this
    omega
   ·rw [c] at h1
    exact e (adv_kid h1)
   ·rw [show ts.length = n + ((ts.length - n - 1) + 1) by omega, adv_add, hn, Option.bind_some, advT, if_neg (by omega)] at h1
    cases h1
theorem endB_kid {l : List Prt} {us : List Nat} (hl : rowsB l = some us) {a n : Nat} (h : kidAt l n a < l.length) : kidAt l n a < kidAt l (n + 1) a ∧ kidAt l (n + 1) a ≤ l.length := by
 rw [kidAt_snoc]
 exact endB_gt hl h
end Go.Proofs.YtmklemelgdilkaaDoor
namespace Go.Proofs.YtmklemelgdilkaaDoor
set_option linter.all false
attribute [local irreducible] Calls
open Go.RowKit

def upsL (l : List Prt) : List Int := (List.range l.length).map (upN l)
theorem upsL_length (l : List Prt) : (upsL l).length = l.length := by simp [upsL]
theorem upsL_get {l : List Prt} {j : Nat} (hj : j < (upsL l).length) : (upsL l)[j] = upN l j := by simp [upsL]
theorem kind_is (l : List Prt) (u : Int) (n : Nat) (hn : n ≠ 69) : (kindI l u == some n) = (kindU l u == (n : Int)) := by
 unfold kindU
 cases kindI l u with
 | none => simp; omega
 | some k => rw [Bool.eq_iff_iff]; simp; omega
set_option maxRecDepth 100000 in
set_option maxHeartbeats 8000000 in
theorem rule_stands (l : List Prt) (hl : l.length ≤ 1000000000) (v vup : Value) (w : World) (hr : PartRow w v l) (hup : RowInts w vup .i64 (upsL l)) (i : Nat) (hi : i < l.length) (k : Nat) :
  Calls Tryd.prog 47 #[v, vup, .int .i64 (i : Int), .int .u8 (k : Int)] w fun e w' => e = .returned (.bool (placeOK l k i)) ∧ w = w' := by
 have HQ : RowKit.Hid (∀ x, placeOK l k i = x → (fun (e : Ending) w' => e = .returned (.bool (placeOK l k i)) ∧ w = w') (.returned (.bool x)) w) := Lib.hid fun x h => ⟨by rw [h], rfl⟩
 generalize (fun (e : Ending) w' => e = .returned (.bool (placeOK l k i)) ∧ w = w') = Q at *
 have hge := upN_ge l i
 have hlt := upN_less l i
 have CK := Lib.hid (fun u h1 h2 => rule_kind l hl v u h1 h2 w hr)
 obtain ⟨ua, ucap, hv, hc, hrow⟩ := hup.open'
 obtain ⟨b, off, rfl, _, hcell⟩ := hrow (by rw [upsL_length]; omega)
 subst hv
 have c0 : w.cell? ⟨b, off + i, none⟩ = some (.int .i64 (upN l i)) := by rw [hcell i (by rw [upsL_length]; exact hi), upsL_get]
 rw [upsL_length] at hc ⊢
 have HC := Lib.hid hcell
 have hi0 : (0 : Int) ≤ (i : Int) := by omega
 have hil : (i : Int) < l.length := by omega
 clear hrow hup hr hcell
 have HP : RowKit.Hid (placeOK l k i = if k = 5 then kindU l (upN l i) == 50 else if k = 7 then (kindU l (upN l i) == 50 && kindU l (upN l (upN l i).toNat) == 13) else if k = 6 then (kindU l (upN l i) == 11 || kindU l (upN l i) == 12) else true) := Lib.hid (by
  unfold placeOK
  rw [kind_is _ _ 50 (by omega), kind_is _ _ 13 (by omega), kind_is _ _ 11 (by omega), kind_is _ _ 12 (by omega)]; rfl)
 have C1 := Lib.hid (CK.out (upN l i) hge (by omega))
 by_cases k5 : k = 5
 ·subst k5
  have HX := Lib.hid (HQ.out _ HP.out)
  rw [if_pos rfl] at HX
  generalize upN l i = u at *
  generalize kindU l u = x at *
  go_enter Tryd.func47, Tryd.ntmps47
  go_wp2_with fail
  refine C1.out.mono ?_
  rintro e w2 ⟨rfl, rfl⟩
  go_wp2_with fail
  exact HX.out
 have hn5 : ((k : Int) == 5) = false := by rw [beq_eq_false_iff_ne]; omega
 have hm5 : (k == 5) = false := by rw [beq_eq_false_iff_ne]; exact k5
 by_cases k7 : k = 7
 ·subst k7
  have HX := Lib.hid (HQ.out _ HP.out)
  rw [if_neg (by omega), if_pos rfl] at HX
  by_cases hx : kindU l (upN l i) = 50
  ·have hu0 : 0 ≤ upN l i := by
    by_cases c : upN l i < 0
    ·unfold kindU kindI at hx
     rw [if_pos c] at hx
     cases hx
    ·omega
   obtain ⟨j, hj⟩ : ∃ j : Nat, upN l i = (j : Int) := ⟨(upN l i).toNat, by omega⟩
   have hjl : j < l.length := by omega
   have c1 : w.cell? ⟨b, off + j, none⟩ = some (.int .i64 (upN l j)) := by rw [HC.out j (by rw [upsL_length]; exact hjl), upsL_get]
   have C2 := Lib.hid (CK.out (upN l j) (upN_ge l j) (by have := upN_less l j; omega))
   rw [hx, hj, Int.toNat_natCast] at HX
   rw [hx] at C1
   rw [hj] at C1 c0
   have hj0 : (0 : Int) ≤ (j : Int) := by omega
   have hjli : (j : Int) < l.length := by omega
   clear hx hj hge hlt hu0 HP HQ
   generalize upN l j = u at *
   generalize kindU l u = y at *
   go_enter Tryd.func47, Tryd.ntmps47
   go_wp2_with fail
   refine C1.out.mono ?_
   rintro e w2 ⟨rfl, rfl⟩
   go_wp2_with fail
   refine C2.out.mono ?_
   rintro e w2 ⟨rfl, rfl⟩
   go_wp2_with fail
   exact HX.out
  ·have hxb : (kindU l (upN l i) == 50) = false := by rw [beq_eq_false_iff_ne]; exact hx
   rw [hxb, Bool.false_and] at HX
   clear hx HP HQ
   generalize upN l i = u at *
   generalize kindU l u = x at *
   go_enter Tryd.func47, Tryd.ntmps47
   go_wp2_with fail
   refine C1.out.mono ?_
   rintro e w2 ⟨rfl, rfl⟩
   go_wp2_with fail
   exact HX.out
 have hn7 : ((k : Int) == 7) = false := by rw [beq_eq_false_iff_ne]; omega
 have hm7 : (k == 7) = false := by rw [beq_eq_false_iff_ne]; exact k7
 by_cases k6 : k = 6
 ·subst k6
  have HX := Lib.hid (HQ.out _ HP.out)
  rw [if_neg (by omega), if_neg (by omega), if_pos rfl] at HX
  clear HP HQ
  generalize upN l i = u at *
  generalize kindU l u = x at *
  cases hx : x == 11 with
  | true =>
   rw [hx, Bool.true_or] at HX
   go_enter Tryd.func47, Tryd.ntmps47
   go_wp2_with fail
   refine C1.out.mono ?_
   rintro e w2 ⟨rfl, rfl⟩
   go_wp2_with fail
   exact HX.out
  | false =>
   rw [hx, Bool.false_or] at HX
   go_enter Tryd.func47, Tryd.ntmps47
   go_wp2_with fail
   refine C1.out.mono ?_
   rintro e w2 ⟨rfl, rfl⟩
   go_wp2_with fail
   refine C1.out.mono ?_
   rintro e w2 ⟨rfl, rfl⟩
   go_wp2_with fail
   exact HX.out
 ·have hn6 : ((k : Int) == 6) = false := by rw [beq_eq_false_iff_ne]; omega
  have HX := Lib.hid (HQ.out _ HP.out)
  rw [if_neg k5, if_neg k7, if_neg k6] at HX
  clear HP HQ
  go_enter Tryd.func47, Tryd.ntmps47
  go_wp2_with fail
  exact HX.out
end Go.Proofs.YtmklemelgdilkaaDoor
namespace Go.Proofs.YtmklemelgdilkaaDoor
set_option linter.all false

theorem by_top {r : RuleM} (hr : ruleZ r = 0) (hg : r.goal = 3) : holeOf r.by' r.holes 0 = none := by
 obtain ⟨_, _, _, hb, hk, _, _, _⟩ := ruleZ_inv hr
 have hk := hk hg
 have h0 := (well_zero (checkB_inv hb).1).1
 have e : kindAt r.by' 0 = (r.by'[0]).1 := by unfold kindAt; rw [List.getElem?_eq_getElem h0]
 cases ho : holeOf r.by' r.holes 0 with
 | none => rfl
 | some h =>
  obtain ⟨hh, hs⟩ := holeOf_inv ho
  rcases stands_inv hs with ⟨_, _, _, h4, _⟩ | ⟨_, _, h5⟩
  ·omega
  ·have := (place_name h5).1
   omega
theorem made_root {r : RuleM} (hr : ruleZ r = 0) (hg : r.goal = 3) (l : List Prt) (bs : List Bnd) : ∃ (x : PN) (M : List PN), madeP r l bs = x :: M ∧ x.1.2.1 = (cntP (M.map (·.1)) : Int) ∧ outP r l bs = M := by
 have hb := (ruleZ_inv hr).2.2.2.1
 have h0 := (well_zero (checkB_inv hb).1).1
 have ho := by_top hr hg
 refine ⟨_, _, (show madeP r l bs = _ :: _ by unfold madeP fuelZ; exact mp_none ho h0), rfl, ?_⟩
 unfold outP
 rw [if_pos hg]
 unfold madeP fuelZ
 rw [mp_none ho h0]
 rfl
theorem outP_len {r : RuleM} (hr : ruleZ r = 0) (l : List Prt) (bs : List Bnd) : (outP r l bs).length + (if r.goal = 3 then 1 else 0) = (madeP r l bs).length := by
 by_cases hg : r.goal = 3
 ·obtain ⟨x, M, h1, _, h2⟩ := made_root hr hg l bs
  rw [h1, h2, if_pos hg]; rfl
 ·unfold outP
  rw [if_neg hg, if_neg hg]; rfl
theorem trees_out {r : RuleM} (hr : ruleZ r = 0) {l : List Prt} {bs : List Bnd} (hb : BindsIn bs l) (hv : ∀ h, ∃ ts, rowsB (piece l (bOf bs h).1 (bOf bs h).2) = some ts) : ∃ ts, rowsB ((outP r l bs).map (·.1)) = some ts := by
 by_cases hg : r.goal = 3
 ·obtain ⟨x, M, h1, _, h2⟩ := made_root hr hg l bs
  obtain ⟨ts, h3⟩ := mPart_rows (t := r.by') (hs := r.holes) (bOf_in hb) hv (fuelZ r.by') 0
  have h4 : rowsB ((x :: M).map (·.1)) = some ts := by rw [← h1]; exact h3
  rw [List.map_cons] at h4
  obtain ⟨us, h5, _⟩ := rowsB_inv h4
  rw [h2]
  exact ⟨us, h5⟩
 ·unfold outP
  rw [if_neg hg]
  exact mPart_rows (bOf_in hb) hv _ 0
end Go.Proofs.YtmklemelgdilkaaDoor
