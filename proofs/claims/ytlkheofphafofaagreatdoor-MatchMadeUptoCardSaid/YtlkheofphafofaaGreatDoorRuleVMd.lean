/- Rules, holes and binds as memory holds them. -/
import Derived.Test.YtlkheofphafofaaGreatDoorCheckBMd
namespace Go.Proofs.YtlkheofphafofaaGreatDoor
set_option linter.all false
open Go.RowKit

theorem Row.cells {w w' : World} {v : Value} {n sz : Nat} {cs : List Value} (h : Row w v n sz cs) (hb : Below w.heap.size w w') (hn : 0 < n) :
  ∃ b off cap, v = .slice (some ⟨b, off, none⟩) n cap ∧ n ≤ cap ∧ b < w.heap.size ∧ ∀ i, i < n * sz → w'.cell? ⟨b, off + i, none⟩ = cs[i]? := by
 obtain ⟨h1, a, cap, hv, hc, hz, h2⟩ := h
 obtain ⟨b, off, ha, hlt, hcell⟩ := h2 hn
 subst ha
 exact ⟨b, off, cap, hv, hc, hlt, fun i hi => by rw [hb.cell (p := ⟨b, off + i, none⟩) hlt]; exact hcell i hi⟩
theorem Row.shape {w : World} {v : Value} {n sz : Nat} {cs : List Value} (h : Row w v n sz cs) : ∃ a cap, v = .slice a n cap ∧ n ≤ cap := by
 obtain ⟨_, a, cap, hv, hc, _⟩ := h; exact ⟨a, cap, hv, hc⟩
theorem flat_at {α : Type} {g : α → List Value} {sz : Nat} (hg : ∀ x, (g x).length = sz) : ∀ (l : List α) (i j : Nat) (hi : i < l.length), j < sz → (l.flatMap g)[i * sz + j]? = (g l[i])[j]?
 | x :: l, 0, j, _, hj => by
  rw [List.flatMap_cons, Nat.zero_mul, Nat.zero_add, List.getElem?_append_left (by rw [hg]; exact hj)]; rfl
 | x :: l, i + 1, j, hi, hj => by
  have h1 : (g x).length ≤ (i + 1) * sz + j := by rw [hg, Nat.add_mul]; omega
  rw [List.flatMap_cons, List.getElem?_append_right h1, hg, show (i + 1) * sz + j - sz = i * sz + j by rw [Nat.add_mul]; omega]
  rw [flat_at hg l i j (by simpa using hi) hj]
  rfl
theorem flat_len {α : Type} {g : α → List Value} {sz : Nat} (hg : ∀ x, (g x).length = sz) : ∀ l : List α, (l.flatMap g).length = l.length * sz
 | [] => by simp
 | x :: l => by rw [List.flatMap_cons, List.length_append, hg, flat_len hg l, List.length_cons, Nat.add_mul]; omega
def holeV (h : Hl) : List Value := [.string h.1, .int .u8 (h.2 : Int)]
def holesV (hs : List Hl) : List Value := hs.flatMap holeV
theorem holesV_length (hs : List Hl) : (holesV hs).length = hs.length * 2 := flat_len (g := holeV) (sz := 2) (fun _ => rfl) hs
def HoleRow (w : World) (v : Value) (hs : List Hl) : Prop := Row w v hs.length 2 (holesV hs)
theorem HoleRow.below {w w' : World} {v : Value} {hs : List Hl} (h : HoleRow w v hs) (hb : Below w.heap.size w w') : HoleRow w' v hs := Row.below h hb
theorem HoleRow.at {w w' : World} {a : Option Addr} {n cap : Nat} {hs : List Hl} (h : HoleRow w (.slice a n cap) hs) (hb : Below w.heap.size w w') (hp : 0 < hs.length) :
  ∃ b off, a = some ⟨b, off, none⟩ ∧ n = hs.length ∧ hs.length ≤ cap ∧ b < w.heap.size ∧ ∀ i (hi : i < hs.length), w'.cell? ⟨b, off + i * 2, none⟩ = some (.string hs[i].1) ∧ w'.cell? ⟨b, off + i * 2 + 1, none⟩ = some (.int .u8 (hs[i].2 : Int)) := by
 obtain ⟨b, off, cap', hv, hc, hlt, hcell⟩ := Row.cells h hb hp
 simp only [Value.slice.injEq] at hv
 obtain ⟨rfl, rfl, rfl⟩ := hv
 refine ⟨b, off, rfl, rfl, hc, hlt, fun i hi => ⟨?_, ?_⟩⟩
 ·rw [hcell _ (by omega)]
  have := flat_at (g := holeV) (sz := 2) (fun _ => rfl) hs i 0 hi (by omega)
  rw [Nat.add_zero] at this
  exact this
 ·rw [Nat.add_assoc, hcell _ (by omega)]
  exact flat_at (g := holeV) (sz := 2) (fun _ => rfl) hs i 1 hi (by omega)
def bindV (b : Bnd) : List Value := [.string b.1, .int .i64 b.2.1, .int .i64 b.2.2]
def bindsV (bs : List Bnd) : List Value := bs.flatMap bindV
theorem bindsV_length (bs : List Bnd) : (bindsV bs).length = bs.length * 3 := flat_len (g := bindV) (sz := 3) (fun _ => rfl) bs
def BindRow (w : World) (v : Value) (bs : List Bnd) : Prop := Row w v bs.length 3 (bindsV bs)
theorem BindRow.below {w w' : World} {v : Value} {bs : List Bnd} (h : BindRow w v bs) (hb : Below w.heap.size w w') : BindRow w' v bs := Row.below h hb
theorem BindRow.at {w w' : World} {a : Option Addr} {n cap : Nat} {bs : List Bnd} (h : BindRow w (.slice a n cap) bs) (hb : Below w.heap.size w w') (hp : 0 < bs.length) :
  ∃ b off, a = some ⟨b, off, none⟩ ∧ n = bs.length ∧ bs.length ≤ cap ∧ b < w.heap.size ∧ ∀ i (hi : i < bs.length), w'.cell? ⟨b, off + i * 3, none⟩ = some (.string bs[i].1) ∧ w'.cell? ⟨b, off + i * 3 + 1, none⟩ = some (.int .i64 bs[i].2.1) ∧ w'.cell? ⟨b, off + i * 3 + 2, none⟩ = some (.int .i64 bs[i].2.2) := by
 obtain ⟨b, off, cap', hv, hc, hlt, hcell⟩ := Row.cells h hb hp
 simp only [Value.slice.injEq] at hv
 obtain ⟨rfl, rfl, rfl⟩ := hv
 refine ⟨b, off, rfl, rfl, hc, hlt, fun i hi => ⟨?_, ?_, ?_⟩⟩
 ·rw [hcell _ (by omega)]
  have := flat_at (g := bindV) (sz := 3) (fun _ => rfl) bs i 0 hi (by omega)
  rw [Nat.add_zero] at this
  exact this
 ·rw [Nat.add_assoc, hcell _ (by omega)]
  exact flat_at (g := bindV) (sz := 3) (fun _ => rfl) bs i 1 hi (by omega)
 ·rw [Nat.add_assoc, hcell _ (by omega)]
  exact flat_at (g := bindV) (sz := 3) (fun _ => rfl) bs i 2 hi (by omega)
def ruleAgg (r : RuleM) (vh vf vb : Value) : Value := .agg #[.string r.nm, .int .u8 (r.goal : Int), vh, vf, vb]
structure RuleIn (w : World) (r : RuleM) (vh vf vb : Value) : Prop where
 H : HoleRow w vh r.holes
 F : PartRow w vf r.fnd
 B : PartRow w vb r.by'
theorem RuleIn.below {w w' : World} {r : RuleM} {vh vf vb : Value} (h : RuleIn w r vh vf vb) (hb : Below w.heap.size w w') : RuleIn w' r vh vf vb := ⟨h.H.below hb, h.F.below hb, h.B.below hb⟩
def SmallL (l : List Prt) : Prop := l.length ≤ 1048576 ∧ ∀ p ∈ l, p.1 < 256 ∧ p.2.2.size ≤ 1048576
structure SmallR (r : RuleM) : Prop where
 n : r.nm.size ≤ 1048576
 g : r.goal < 256
 h : r.holes.length ≤ 1048576 ∧ ∀ x ∈ r.holes, x.1.size ≤ 1048576 ∧ x.2 < 256
 f : SmallL r.fnd
 b : SmallL r.by'
end Go.Proofs.YtlkheofphafofaaGreatDoor
namespace Go.Proofs.YtlkheofphafofaaGreatDoor
set_option linter.all false

def UpInv (l : List Prt) : List (Nat × Int) → Nat → Prop
 | [], pos => pos = l.length ∨ pos = 0
 | (o, c) :: st, pos => o < pos ∧ 0 ≤ c ∧ advT l c.toNat pos (endB l o) = some (endB l o) ∧ endB l o ≤ l.length ∧ (∀ j, o < j → j < pos → endB l j ≤ pos) ∧ UpInv l st (endB l o)
theorem UpInv.pop {l : List Prt} {o : Nat} {st : List (Nat × Int)} {pos : Nat} (h : UpInv l ((o, 0) :: st) pos) : UpInv l st pos := by
 obtain ⟨_, _, h3, _, _, h6⟩ := h
 rw [show (0 : Int).toNat = 0 by rfl, advT] at h3
 have : pos = endB l o := by simpa using h3
 rw [this]; exact h6
theorem UpInv.top {l : List Prt} {us : List Nat} (hl : rowsB l = some us) {o : Nat} {c : Int} {st : List (Nat × Int)} {pos : Nat} (h : UpInv l ((o, c) :: st) pos) (hc : c ≠ 0) : upN l pos = (o : Int) ∧ o < pos ∧ pos < endB l o := by
 obtain ⟨h1, h2, h3, h4, h5, _⟩ := h
 have hlt : pos < endB l o := by
  obtain ⟨k, hk⟩ : ∃ k, c.toNat = k + 1 := ⟨c.toNat - 1, by omega⟩
  rw [hk, advT] at h3
  split at h3
  ·assumption
  ·cases h3
 exact ⟨up_of hl (by omega) h1 hlt h5, h1, hlt⟩
theorem UpInv.push {l : List Prt} {us : List Nat} (hl : rowsB l = some us) {o : Nat} {c : Int} {st : List (Nat × Int)} {i : Nat} (h : UpInv l ((o, c) :: st) i) (hc : c ≠ 0) (hi : i < l.length) : UpInv l ((i, (l[i]).2.1) :: (o, c - 1) :: st) (i + 1) := by
 obtain ⟨g1, g2, g3⟩ := h.top hl hc
 obtain ⟨h1, h2, h3, h4, h5, h6⟩ := h
 obtain ⟨q, k1, k2⟩ := adv_kids hl hi
 have hg := endB_gt hl hi
 refine ⟨by omega, by omega, by rw [k1]; exact k2, hg.2, fun j a b => by omega, by omega, by omega, ?_, h4, fun j a b => ?_, h6⟩
 ·obtain ⟨k, hk⟩ : ∃ k, c.toNat = k + 1 := ⟨c.toNat - 1, by omega⟩
  rw [hk, advT, if_pos g3] at h3
  rw [show (c - 1).toNat = k by omega]; exact h3
 ·rcases Nat.lt_or_ge j i with a1 | a1
  ·have := h5 j a a1; omega
  ·exact end_within hl hi a1 b
theorem UpInv.root {l : List Prt} (hl : wellB l = true) (h0 : 0 < l.length) : UpInv l [(0, (l[0]).2.1)] 1 := by
 have hw := well_rows hl
 have hz := well_zero hl
 obtain ⟨q, k1, k2⟩ := adv_kids hw h0
 exact ⟨by omega, by omega, by rw [k1]; exact k2, by omega, fun j a b => by omega, Or.inl hz.2⟩
theorem UpInv.len {l : List Prt} : ∀ {st : List (Nat × Int)} {pos : Nat}, UpInv l st pos → ∀ x ∈ st, x.1 < l.length ∧ 0 ≤ x.2
 | [], _, _, x, hx => by cases hx
 | (o, c) :: st, pos, h, x, hx => by
  obtain ⟨h1, h2, h3, h4, h5, h6⟩ := h
  rcases List.mem_cons.1 hx with rfl | hx
  ·refine ⟨?_, h2⟩
   show o < l.length
   apply Classical.byContradiction
   intro hn
   have : endB l o = o := by
    unfold endB headSize
    rw [List.drop_eq_nil_of_le (by omega), rowsB_nil]; rfl
   cases hc : c.toNat with
   | zero =>
    rw [hc, advT] at h3
    have := Option.some.inj h3
    omega
   | succ k =>
    rw [hc, advT] at h3
    split at h3
    ·omega
    ·cases h3
  ·exact UpInv.len h6 x hx
end Go.Proofs.YtlkheofphafofaaGreatDoor
namespace Go.Proofs.YtlkheofphafofaaGreatDoor
set_option linter.all false
attribute [local irreducible] Calls
open Go.RowKit

def kindU (l : List Prt) (u : Int) : Int := match kindI l u with
 | some k => (k : Int)
 | none => 69
theorem upN_ge (l : List Prt) (i : Nat) : -1 ≤ upN l i := by
 unfold upN
 have key : ∀ k, -1 ≤ upI l i k := by
  intro k
  induction k with
  | zero => rw [upI]; omega
  | succ k ih => rw [upI]; split <;> omega
 exact key i
theorem upN_less (l : List Prt) (i : Nat) : upN l i < (i : Int) := by
 unfold upN
 have key : ∀ k, upI l i k < (k : Int) := by
  intro k
  induction k with
  | zero => rw [upI]; omega
  | succ k ih => rw [upI]; split <;> omega
 exact key i
set_option maxRecDepth 100000 in
set_option maxHeartbeats 8000000 in
theorem rule_kind (l : List Prt) (hl : l.length ≤ 1000000000) (v : Value) (u : Int) (h1 : -1 ≤ u) (h2 : u < l.length) (w : World) (hr : PartRow w v l) :
  Calls Tryz.prog 96 #[v, .int .i64 u] w fun e w' => e = .returned (.int .u8 (kindU l u)) ∧ w = w' := by
 have HQ : RowKit.Hid (∀ x, kindU l u = x → (fun (e : Ending) w' => e = .returned (.int .u8 (kindU l u)) ∧ w = w') (.returned (.int .u8 x)) w) := Lib.hid fun x h => ⟨by rw [h], rfl⟩
 generalize (fun (e : Ending) w' => e = .returned (.int .u8 (kindU l u)) ∧ w = w') = Q at *
 obtain ⟨va, vcap, rfl, hvc⟩ := hr.slice
 by_cases hu : u < 0
 ·have HX := Lib.hid (HQ.out 69 (by unfold kindU kindI; rw [if_pos hu]))
  go_enter Tryz.func96, Tryz.ntmps96
  go_wp2_with fail
  exact HX.out
 ·obtain ⟨k, rfl⟩ : ∃ k : Nat, u = (k : Int) := ⟨u.toNat, by omega⟩
  have hk : k < l.length := by omega
  obtain ⟨b, off, rfl, _, _, hbl, hcell⟩ := hr.at (Below.refl _ _) (show 0 < l.length by omega)
  have c0 := (hcell k hk).1
  have hk0 : (0 : Int) ≤ (k : Int) := by omega
  have hkl : (k : Int) < l.length := by omega
  have hneg : ¬ (k : Int) < 0 := by omega
  have HX := Lib.hid (HQ.out ((l[k]).1 : Int) (by unfold kindU kindI; rw [if_neg hneg, Int.toNat_natCast, List.getElem?_eq_getElem hk]; rfl))
  clear hcell hr HQ
  generalize (l[k]).1 = x at *
  go_enter Tryz.func96, Tryz.ntmps96
  go_wp2_with fail
  exact HX.out
end Go.Proofs.YtlkheofphafofaaGreatDoor
namespace Go.Proofs.YtlkheofphafofaaGreatDoor
set_option linter.all false
attribute [local irreducible] Calls
open Go.RowKit

def upsL (l : List Prt) : List Int := (List.range l.length).map (upN l)
theorem upsL_length (l : List Prt) : (upsL l).length = l.length := by simp [upsL]
theorem upsL_get {l : List Prt} {j : Nat} (hj : j < (upsL l).length) : (upsL l)[j] = upN l j := by simp [upsL]
theorem kind_is (l : List Prt) (u : Int) (n : Nat) (hn : n ≠ 69) : (kindI l u == some n) = (kindU l u == (n : Int)) := by
 unfold kindU
 cases kindI l u with
 | none => simp; omega
 | some k => rw [Bool.eq_iff_iff]; simp; omega
set_option maxRecDepth 100000 in
set_option maxHeartbeats 8000000 in
theorem rule_stands (l : List Prt) (hl : l.length ≤ 1000000000) (v vup : Value) (w : World) (hr : PartRow w v l) (hup : RowInts w vup .i64 (upsL l)) (i : Nat) (hi : i < l.length) (k : Nat) :
  Calls Tryz.prog 72 #[v, vup, .int .i64 (i : Int), .int .u8 (k : Int)] w fun e w' => e = .returned (.bool (placeOK l k i)) ∧ w = w' := by
 have HQ : RowKit.Hid (∀ x, placeOK l k i = x → (fun (e : Ending) w' => e = .returned (.bool (placeOK l k i)) ∧ w = w') (.returned (.bool x)) w) := Lib.hid fun x h => ⟨by rw [h], rfl⟩
 generalize (fun (e : Ending) w' => e = .returned (.bool (placeOK l k i)) ∧ w = w') = Q at *
 have hge := upN_ge l i
 have hlt := upN_less l i
 have CK := Lib.hid (fun u h1 h2 => rule_kind l hl v u h1 h2 w hr)
 obtain ⟨ua, ucap, hv, hc, hrow⟩ := hup.open'
 obtain ⟨b, off, rfl, _, hcell⟩ := hrow (by rw [upsL_length]; omega)
 subst hv
 have c0 : w.cell? ⟨b, off + i, none⟩ = some (.int .i64 (upN l i)) := by rw [hcell i (by rw [upsL_length]; exact hi), upsL_get]
 rw [upsL_length] at hc ⊢
 have HC := Lib.hid hcell
 have hi0 : (0 : Int) ≤ (i : Int) := by omega
 have hil : (i : Int) < l.length := by omega
 clear hrow hup hr hcell
 have HP : RowKit.Hid (placeOK l k i = if k = 5 then kindU l (upN l i) == 50 else if k = 7 then (kindU l (upN l i) == 50 && kindU l (upN l (upN l i).toNat) == 13) else if k = 6 then (kindU l (upN l i) == 11 || kindU l (upN l i) == 12) else true) := Lib.hid (by
  unfold placeOK
  rw [kind_is _ _ 50 (by omega), kind_is _ _ 13 (by omega), kind_is _ _ 11 (by omega), kind_is _ _ 12 (by omega)]; rfl)
 have C1 := Lib.hid (CK.out (upN l i) hge (by omega))
 by_cases k5 : k = 5
 ·subst k5
  have HX := Lib.hid (HQ.out _ HP.out)
  rw [if_pos rfl] at HX
  generalize upN l i = u at *
  generalize kindU l u = x at *
  go_enter Tryz.func72, Tryz.ntmps72
  go_wp2_with fail
  refine C1.out.mono ?_
  rintro e w2 ⟨rfl, rfl⟩
  go_wp2_with fail
  exact HX.out
 have hn5 : ((k : Int) == 5) = false := by rw [beq_eq_false_iff_ne]; omega
 have hm5 : (k == 5) = false := by rw [beq_eq_false_iff_ne]; exact k5
 by_cases k7 : k = 7
 ·subst k7
  have HX := Lib.hid (HQ.out _ HP.out)
  rw [if_neg (by omega), if_pos rfl] at HX
  by_cases hx : kindU l (upN l i) = 50
  ·have hu0 : 0 ≤ upN l i := by
    by_cases c : upN l i < 0
    ·unfold kindU kindI at hx
     rw [if_pos c] at hx
     cases hx
    ·omega
   obtain ⟨j, hj⟩ : ∃ j : Nat, upN l i = (j : Int) := ⟨(upN l i).toNat, by omega⟩
   have hjl : j < l.length := by omega
   have c1 : w.cell? ⟨b, off + j, none⟩ = some (.int .i64 (upN l j)) := by rw [HC.out j (by rw [upsL_length]; exact hjl), upsL_get]
   have C2 := Lib.hid (CK.out (upN l j) (upN_ge l j) (by have := upN_less l j; omega))
   rw [hx, hj, Int.toNat_natCast] at HX
   rw [hx] at C1
   rw [hj] at C1 c0
   have hj0 : (0 : Int) ≤ (j : Int) := by omega
   have hjli : (j : Int) < l.length := by omega
   clear hx hj hge hlt hu0 HP HQ
   generalize upN l j = u at *
   generalize kindU l u = y at *
   go_enter Tryz.func72, Tryz.ntmps72
   go_wp2_with fail
   refine C1.out.mono ?_
   rintro e w2 ⟨rfl, rfl⟩
   go_wp2_with fail
   refine C2.out.mono ?_
   rintro e w2 ⟨rfl, rfl⟩
   go_wp2_with fail
   exact HX.out
  ·have hxb : (kindU l (upN l i) == 50) = false := by rw [beq_eq_false_iff_ne]; exact hx
   rw [hxb, Bool.false_and] at HX
   clear hx HP HQ
   generalize upN l i = u at *
   generalize kindU l u = x at *
   go_enter Tryz.func72, Tryz.ntmps72
   go_wp2_with fail
   refine C1.out.mono ?_
   rintro e w2 ⟨rfl, rfl⟩
   go_wp2_with fail
   exact HX.out
 have hn7 : ((k : Int) == 7) = false := by rw [beq_eq_false_iff_ne]; omega
 have hm7 : (k == 7) = false := by rw [beq_eq_false_iff_ne]; exact k7
 by_cases k6 : k = 6
 ·subst k6
  have HX := Lib.hid (HQ.out _ HP.out)
  rw [if_neg (by omega), if_neg (by omega), if_pos rfl] at HX
  clear HP HQ
  generalize upN l i = u at *
  generalize kindU l u = x at *
  cases hx : x == 11 with
  | true =>
   rw [hx, Bool.true_or] at HX
   go_enter Tryz.func72, Tryz.ntmps72
   go_wp2_with fail
   refine C1.out.mono ?_
   rintro e w2 ⟨rfl, rfl⟩
   go_wp2_with fail
   exact HX.out
  | false =>
   rw [hx, Bool.false_or] at HX
   go_enter Tryz.func72, Tryz.ntmps72
   go_wp2_with fail
   refine C1.out.mono ?_
   rintro e w2 ⟨rfl, rfl⟩
   go_wp2_with fail
   refine C1.out.mono ?_
   rintro e w2 ⟨rfl, rfl⟩
   go_wp2_with fail
   exact HX.out
 ·have hn6 : ((k : Int) == 6) = false := by rw [beq_eq_false_iff_ne]; omega
  have HX := Lib.hid (HQ.out _ HP.out)
  rw [if_neg k5, if_neg k7, if_neg k6] at HX
  clear HP HQ
  go_enter Tryz.func72, Tryz.ntmps72
  go_wp2_with fail
  exact HX.out
end Go.Proofs.YtlkheofphafofaaGreatDoor
namespace Go.Proofs.YtlkheofphafofaaGreatDoor
set_option linter.all false
open Go.RowKit

def e2Rel (l : List Prt) (w : World) (iv : Value) (wr : World) : Prop :=
 ∃ (k : Nat) (E : List Int), iv = .int .i64 ((k : Int) - 1) ∧ k ≤ l.length ∧ E.length = l.length ∧ (∀ j, k ≤ j → j < l.length → E.getD j 0 = (endB l j : Int)) ∧
  wr.heap[w.heap.size]? = some (.cells (E.map (Value.int .i64)).toArray 3 (0, 0)) ∧ Below w.heap.size w wr
def e2In (l : List Prt) (w : World) (E : List Int) (i q : Nat) (cv : Value) (wr : World) : Prop :=
 ∃ c : Nat, cv = .int .i64 (c : Int) ∧ c ≤ q ∧ wr.heap[w.heap.size]? = some (.cells ((E.set i (kidAt l c (i + 1) : Int)).map (Value.int .i64)).toArray 3 (0, 0)) ∧ Below w.heap.size w wr
@[irreducible] def ends2Post (l : List Prt) (w0 : World) (e : Ending) (w' : World) : Prop :=
 ∃ v, e = .returned v ∧ Below w0.heap.size w0 w' ∧ w'.ownsRow w0.heap.size 3 1 v l.length ((endsL l).map (Value.int .i64))
theorem owns_block {w : World} {B g : Nat} {n : Nat} {E : List Int} (h : w.heap[g]? = some (.cells (E.map (Value.int .i64)).toArray 3 (0, 0))) (hB : B ≤ g) (hn : E.length = n) (hm : n ≤ 1000000000) : w.ownsRow B 3 1 (.slice (some ⟨g, 0, none⟩) n n) n (E.map (Value.int .i64)) :=
 ⟨by simp [hn], Or.inr ⟨g, n, _, rfl, hB, h, Nat.le_refl _, by unfold maxLen; omega, by simp [hn], by simp; rw [List.take_of_length_le (by simp [hn])]⟩⟩
set_option maxRecDepth 100000 in
set_option maxHeartbeats 8000000 in
theorem match_ends (l : List Prt) (hl : l.length ≤ 1000000000) (us : List Nat) (hus : rowsB l = some us) (v : Value) (w : World) (hr : PartRow w v l) :
  Calls Tryz.prog 37 #[v] w (ends2Post l w) := by
 have HQ : RowKit.Hid (∀ v' w', Below w.heap.size w w' → w'.ownsRow w.heap.size 3 1 v' l.length ((endsL l).map (Value.int .i64)) → ends2Post l w (.returned v') w') := Lib.hid fun v' w' h1 h2 => by
  unfold ends2Post; exact ⟨v', rfl, h1, h2⟩
 generalize ends2Post l w = Q at *
 have HR := Lib.hid hr
 have HU := Lib.hid hus
 obtain ⟨va, vcap, rfl, hvc⟩ := hr.slice
 clear hr hus
 have hmk := Tmake_ints l.length hl
 have hwl : IntKind.i64.wrap ((l.length : Int) - 1) = (l.length : Int) - 1 := by rw [IntKind.wrap_i64]; omega
 go_enter Tryz.func37, Tryz.ntmps37
 go_wp2_with fail
 have HK0 : RowKit.Hid ((w.alloc (.cells (Array.replicate l.length (Value.int .i64 0)) 3)).heap[w.heap.size]? = some (.cells ((List.replicate l.length (0 : Int)).map (Value.int .i64)).toArray 3 (0, 0))) := Lib.hid (by
  have := heap_alloc_new w (.cells (Array.replicate l.length (Value.int .i64 0)) 3)
  rw [this, List.map_replicate, List.toArray_replicate])
 have HB0 : RowKit.Hid (Below w.heap.size w (w.alloc (.cells (Array.replicate l.length (Value.int .i64 0)) 3))) := Lib.hid ((Below.refl _ _).alloc (Nat.le_refl _) _)
 generalize w.alloc (.cells (Array.replicate l.length (Value.int .i64 0)) 3) = W0 at *
 generalize hBB : w.heap.size = B at *
 have HBB := Lib.hid hBB
 clear hBB
 go_loopw [4] (fun j wr => e2Rel l w j wr) (fun j _ => (intOf j + 1).toNat)
 case atStart =>
  refine ⟨l.length, List.replicate l.length 0, rfl, Nat.le_refl _, by simp, fun i h1 h2 => by omega, ?_, ?_⟩
  ·rw [HBB.out]; exact HK0.out
  ·rw [HBB.out]; exact HB0.out
 case round =>
  obtain ⟨k, E, rfl, hk, hEl, hEq, hh, hb⟩ := hrel
  rw [HBB.out] at hh hb
  have HB := Lib.hid hb
  have HH := Lib.hid hh
  have HEQ := Lib.hid hEq
  have HEL := Lib.hid hEl
  have hBlt : B < wr.heap.size := lt_of_block hh
  clear hb hh hEq hEl
  by_cases hk0 : 0 < k
  ·obtain ⟨i, rfl⟩ : ∃ i, k = i + 1 := ⟨k - 1, by omega⟩
   rw [show (((i + 1 : Nat) : Int) - 1) = (i : Int) by omega]
   have hil : i < l.length := hk
   obtain ⟨b, off, rfl, _, _, hbl, hcell⟩ := HR.out.at (HBB.out ▸ HB.out) (show 0 < l.length by omega)
   obtain ⟨q, hq1, hq2, hq4, hq3⟩ := kids_go HU.out hil
   have c0 : wr.cell? ⟨b, off + i * 3 + 1, none⟩ = some (.int .i64 (q : Int)) := by rw [(hcell i hil).2.1, hq1]
   have HKI := Lib.hid hq3
   have HKE := Lib.hid hq2
   have hi0 : (0 : Int) ≤ i := by omega
   have hil' : (i : Int) < l.length := by omega
   have hic : (i : Int) < vcap := by omega
   have hwi : IntKind.i64.wrap ((i : Int) + 1) = (i : Int) + 1 := by rw [IntKind.wrap_i64]; omega
   have hwm : IntKind.i64.wrap ((i : Int) - 1) = (i : Int) - 1 := by rw [IntKind.wrap_i64]; omega
   have c1 : wr.cell? ⟨B, i, none⟩ = some (.int .i64 (E.getD i 0)) := by
    simp [World.cell?, HH.out, HEL.out, hil, List.getD_eq_getElem?_getD]
   have z1 : wr.frozen? ⟨B, i, none⟩ = false := by simp [World.frozen?, HH.out]
   have hbB : b ≠ B := by have := HBB.out; omega
   have c0' : (wr.setCell ⟨B, i, none⟩ (.int .i64 ((i : Int) + 1))).cell? ⟨b, off + i * 3 + 1, none⟩ = some (.int .i64 (q : Int)) := by
    rw [Tcell_setCell_ne (by exact hbB)]; exact c0
   have HAT : RowKit.Hid (e2In l w E i q (.int .i64 0) (wr.setCell ⟨B, i, none⟩ (.int .i64 ((i : Int) + 1)))) := Lib.hid ⟨0, rfl, Nat.zero_le _, by
    rw [HBB.out, heap_setCell_same _ _ _ _ _ _ HH.out, List.setIfInBounds_toArray, ← List.map_set]; rfl, by
    rw [HBB.out]; exact HB.out.setCell (p := ⟨B, i, none⟩) (Nat.le_refl _) _⟩
   clear hcell hq1 hq2 hq3 hk0 c0 hbB
   go_wp2_with fail
   clear c1 z1 c0'
   go_loopw [25] (fun cv wx => e2In l w E i q cv wx) (fun cv _ => q - (intOf cv).toNat)
   case atStart => exact HAT.out
   case round =>
    obtain ⟨c, rfl, hcq, hh2, hb2⟩ := hrel
    rw [HBB.out] at hh2 hb2
    have HH2 := Lib.hid hh2
    have HB2 := Lib.hid hb2
    clear hh2 hb2 HAT
    by_cases hlt : c < q
    ·obtain ⟨x1, x2⟩ := HKI.out c hlt
     have HXS := Lib.hid (kidAt_snoc l c (i + 1))
     generalize kidAt l c (i + 1) = x at *
     have d1 : wr.cell? ⟨B, i, none⟩ = some (.int .i64 (x : Int)) := by
      simp [World.cell?, HH2.out, HEL.out, hil]
     have d2 : wr.cell? ⟨B, x, none⟩ = some (.int .i64 (endB l x : Int)) := by
      have := HEQ.out x (by omega) x2
      rw [List.getD_eq_getElem?_getD] at this
      simp only [World.cell?, HH2.out]
      rw [← this]
      simp [HEL.out, x2, show ¬ i = x by omega]
     have d3 : wr.frozen? ⟨B, i, none⟩ = false := by simp [World.frozen?, HH2.out]
     have HN1 : RowKit.Hid ((wr.setCell ⟨B, i, none⟩ (.int .i64 (endB l x : Int))).heap[w.heap.size]? = some (.cells ((E.set i (kidAt l (c + 1) (i + 1) : Int)).map (Value.int .i64)).toArray 3 (0, 0))) := Lib.hid (by
      rw [HBB.out, HXS.out, heap_setCell_same _ _ _ _ _ _ HH2.out, List.setIfInBounds_toArray, ← List.map_set, List.set_set])
     have HN2 : RowKit.Hid (Below w.heap.size w (wr.setCell ⟨B, i, none⟩ (.int .i64 (endB l x : Int)))) := Lib.hid (by
      rw [HBB.out]; exact HB2.out.setCell (p := ⟨B, i, none⟩) (Nat.le_refl _) _)
     have hx0 : (0 : Int) ≤ (x : Int) := by omega
     have hxl : (x : Int) < l.length := by omega
     have hci : (c : Int) < q := by omega
     have hwc : IntKind.i64.wrap ((c : Int) + 1) = (c : Int) + 1 := by rw [IntKind.wrap_i64]; omega
     generalize endB l x = y at *
     clear HXS
     go_wp2_with fail
     refine ⟨⟨c + 1, by go_num, by omega, HN1.out, HN2.out⟩, by simp [intOf]; omega⟩
    ·obtain rfl : c = q := by omega
     have hci : ¬ (c : Int) < (c : Int) := by omega
     have HN : RowKit.Hid (e2Rel l w (.int .i64 ((i : Int) - 1)) wr) := Lib.hid ⟨i, E.set i (endB l i : Int), rfl, by omega, by rw [List.length_set]; exact HEL.out, fun j h1 h2 => by
      rw [List.getD_eq_getElem?_getD, List.getElem?_set]
      by_cases e : i = j
      ·subst e; (rw [if_pos rfl, if_pos (by rw [HEL.out]; exact hil)]; try rfl)
      ·rw [if_neg e, ← List.getD_eq_getElem?_getD]; exact HEQ.out j (by omega) h2, by rw [HBB.out, ← HKE.out]; exact HH2.out, by rw [HBB.out]; exact HB2.out⟩
     go_wp2_with fail
     refine ⟨HN.out, by simp [intOf]; try omega⟩
  ·obtain rfl : k = 0 := by omega
   rw [show (((0 : Nat) : Int) - 1) = -1 by rfl]
   have hEE : E = endsL l := by
    apply List.ext_getElem (by rw [HEL.out, endsL_length])
    intro j h1 h2
    have h3 := HEQ.out j (by omega) (by have := HEL.out; omega)
    have h4 := endsL_get (l := l) (j := j) (by have := HEL.out; omega)
    rw [List.getD_eq_getElem?_getD, List.getElem?_eq_getElem h1] at h3
    rw [List.getElem?_eq_getElem h2] at h4
    simp only [Option.getD_some] at h3
    rw [h3]; exact (Option.some.inj h4).symm
   subst hEE
   have HX := Lib.hid (HQ.out (.slice (some ⟨B, 0, none⟩) l.length l.length) wr HB.out (owns_block HH.out (Nat.le_refl _) (endsL_length l) hl))
   go_wp2_with fail
   exact HX.out
end Go.Proofs.YtlkheofphafofaaGreatDoor
namespace Go.Proofs.YtlkheofphafofaaGreatDoor
set_option linter.all false

def dupB (r : RuleM) (k : Nat) (s : ByteArray) : Bool := (r.holes.take k).any fun g => decide (g.1 = s)
def seenM (hs : List Hl) (x : ByteArray) : Option Int := if hs.any (fun g => decide (g.1 = x)) = true then some 1 else none
theorem seenM_put (hs : List Hl) (h : Hl) : (fun x => if x = h.1 then some 1 else seenM hs x) = seenM (hs ++ [h]) := by
 funext x
 unfold seenM
 rw [List.any_append]
 by_cases e : x = h.1
 ·subst e; simp
 ·rw [if_neg e]
  have : (List.any [h] fun g => decide (g.1 = x)) = false := by simp; exact fun e2 => e e2.symm
  rw [this, Bool.or_false]
theorem take_snoc {α : Type} {l : List α} {k : Nat} (hk : k < l.length) : l.take (k + 1) = l.take k ++ [l[k]] := by
 rw [List.take_add_one, List.getElem?_eq_getElem hk]; rfl
theorem holeB_eq {r : RuleM} {k : Nat} (hk : k < r.holes.length) : holeB r k = (!dupB r k (r.holes[k]).1 && (name (r.holes[k]).1 && (decide (1 ≤ (r.holes[k]).2 ∧ (r.holes[k]).2 ≤ 7) && (decide (1 ≤ placesZ r.fnd r.holes[k]) && decide (0 ≤ placesZ r.by' r.holes[k]))))) := by
 unfold holeB dupB
 rw [List.getElem?_eq_getElem hk]
theorem ruleZ_10 {r : RuleM} (h : ruleTop r = false) : ruleZ r = 10 := by unfold ruleZ; rw [if_pos h]
theorem ruleZ_14 {r : RuleM} (h : ruleTop r = true) (c : 16 < r.holes.length ∨ 2 < sevN r.holes) : ruleZ r = 14 := by unfold ruleZ; rw [if_neg (by simp [h]), if_pos c]
theorem ruleZ_11 {r : RuleM} (h : ruleTop r = true) (c1 : r.holes.length ≤ 16) (c2 : sevN r.holes ≤ 2) {k : Nat} (hk : k < r.holes.length) (hb : holeB r k = false) : ruleZ r = 11 := by
 unfold ruleZ
 rw [if_neg (by simp [h]), if_neg (by omega), if_neg (fun hh => by have := hh k hk; rw [hb] at this; cases this)]
theorem ruleZ_0 {r : RuleM} (h : ruleTop r = true) (c1 : r.holes.length ≤ 16) (c2 : sevN r.holes ≤ 2) (hh : ∀ i, i < r.holes.length → holeB r i = true) : ruleZ r = 0 := by
 unfold ruleZ
 rw [if_neg (by simp [h]), if_neg (by omega), if_pos hh]
theorem sevN_take {hs : List Hl} {k : Nat} (hk : k < hs.length) : sevN (hs.take (k + 1)) = sevN (hs.take k) + (if isSev (hs[k]).2 = true then 1 else 0) := by
 unfold sevN
 rw [take_snoc hk, List.filter_append, List.length_append]
 by_cases h : isSev (hs[k]).2 = true
 ·simp [h]
 ·simp [h]
theorem sevN_all (hs : List Hl) : sevN (hs.take hs.length) = sevN hs := by rw [List.take_length]
theorem sevN_le (hs : List Hl) : sevN hs ≤ hs.length := List.length_filter_le _ _
end Go.Proofs.YtlkheofphafofaaGreatDoor
