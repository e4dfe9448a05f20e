/- Layer 16 in plain Lean: the parts above, by a stack of those that are open. -/
import Derived.Test.YtlkheofphafofaaGreatDoorCheckBM
import Derived.Test.YtlkheofphafofaaGreatDoorMatchPM
import Derived.Test.YtlkheofphafofaaGreatDoorTermQM
namespace Go.Proofs.YtlkheofphafofaaGreatDoor
set_option linter.all false

def UpInv (l : List Prt) : List (Nat × Int) → Nat → Prop
 | [], pos => pos = l.length ∨ pos = 0
 | (o, c) :: st, pos => o < pos ∧ 0 ≤ c ∧ advT l c.toNat pos (endB l o) = some (endB l o) ∧ endB l o ≤ l.length ∧ (∀ j, o < j → j < pos → endB l j ≤ pos) ∧ UpInv l st (endB l o)
theorem UpInv.pop {l : List Prt} {o : Nat} {st : List (Nat × Int)} {pos : Nat} (h : UpInv l ((o, 0) :: st) pos) : UpInv l st pos := by
 obtain ⟨_, _, h3, _, _, h6⟩ := h
 rw [show (0 : Int).toNat = 0 by rfl, advT] at h3
 have : pos = endB l o := by simpa using h3
 rw [this]; exact h6
theorem UpInv.top {l : List Prt} {us : List Nat} (hl : rowsB l = some us) {o : Nat} {c : Int} {st : List (Nat × Int)} {pos : Nat} (h : UpInv l ((o, c) :: st) pos) (hc : c ≠ 0) : upN l pos = (o : Int) ∧ o < pos ∧ pos < endB l o := by
 obtain ⟨h1, h2, h3, h4, h5, _⟩ := h
 have hlt : pos < endB l o := by
  obtain ⟨k, hk⟩ : ∃ k, c.toNat = k + 1 := ⟨c.toNat - 1, by omega⟩
  rw [hk, advT] at h3
  split at h3
  ·assumption
  ·cases h3
 exact ⟨up_of hl (by omega) h1 hlt h5, h1, hlt⟩
theorem UpInv.push {l : List Prt} {us : List Nat} (hl : rowsB l = some us) {o : Nat} {c : Int} {st : List (Nat × Int)} {i : Nat} (h : UpInv l ((o, c) :: st) i) (hc : c ≠ 0) (hi : i < l.length) : UpInv l ((i, (l[i]).2.1) :: (o, c - 1) :: st) (i + 1) := by
 obtain ⟨g1, g2, g3⟩ := h.top hl hc
 obtain ⟨h1, h2, h3, h4, h5, h6⟩ := h
 obtain ⟨q, k1, k2⟩ := adv_kids hl hi
 have hg := endB_gt hl hi
 refine ⟨by omega, by omega, by rw [k1]; exact k2, hg.2, fun j a b => by omega, by omega, by omega, ?_, h4, fun j a b => ?_, h6⟩
 ·obtain ⟨k, hk⟩ : ∃ k, c.toNat = k + 1 := ⟨c.toNat - 1, by omega⟩
  rw [hk, advT, if_pos g3] at h3
  rw [show (c - 1).toNat = k by omega]; exact h3
 ·rcases Nat.lt_or_ge j i with a1 | a1
  ·have := h5 j a a1; omega
  ·exact end_within hl hi a1 b
theorem UpInv.root {l : List Prt} (hl : wellB l = true) (h0 : 0 < l.length) : UpInv l [(0, (l[0]).2.1)] 1 := by
 have hw := well_rows hl
 have hz := well_zero hl
 obtain ⟨q, k1, k2⟩ := adv_kids hw h0
 exact ⟨by omega, by omega, by rw [k1]; exact k2, by omega, fun j a b => by omega, Or.inl hz.2⟩
theorem UpInv.len {l : List Prt} : ∀ {st : List (Nat × Int)} {pos : Nat}, UpInv l st pos → ∀ x ∈ st, x.1 < l.length ∧ 0 ≤ x.2
 | [], _, _, x, hx => by cases hx
 | (o, c) :: st, pos, h, x, hx => by
  obtain ⟨h1, h2, h3, h4, h5, h6⟩ := h
  rcases List.mem_cons.1 hx with rfl | hx
  ·refine ⟨?_, h2⟩
   show o < l.length
   apply Classical.byContradiction
   intro hn
   have : endB l o = o := by
    unfold endB headSize
    rw [List.drop_eq_nil_of_le (by omega), rowsB_nil]; rfl
   cases hc : c.toNat with
   | zero =>
    rw [hc, advT] at h3
    have := Option.some.inj h3
    omega
   | succ k =>
    rw [hc, advT] at h3
    split at h3
    ·omega
    ·cases h3
  ·exact UpInv.len h6 x hx
end Go.Proofs.YtlkheofphafofaaGreatDoor
namespace Go.Proofs.YtlkheofphafofaaGreatDoor
set_option linter.all false
attribute [local irreducible] Calls
open Go.RowKit

def kindU (l : List Prt) (u : Int) : Int := match kindI l u with
 | some k => (k : Int)
 | none => 69
theorem upN_ge (l : List Prt) (i : Nat) : -1 ≤ upN l i := by
 unfold upN
 have key : ∀ k, -1 ≤ upI l i k := by
  intro k
  induction k with
  | zero => rw [upI]; omega
  | succ k ih => rw [upI]; split <;> omega
 exact key i
theorem upN_less (l : List Prt) (i : Nat) : upN l i < (i : Int) := by
 unfold upN
 have key : ∀ k, upI l i k < (k : Int) := by
  intro k
  induction k with
  | zero => rw [upI]; omega
  | succ k ih => rw [upI]; split <;> omega
 exact key i
set_option maxRecDepth 100000 in
set_option maxHeartbeats 8000000 in
theorem rule_kind (l : List Prt) (hl : l.length ≤ 1000000000) (v : Value) (u : Int) (h1 : -1 ≤ u) (h2 : u < l.length) (w : World) (hr : PartRow w v l) :
  Calls Tryz.prog 96 #[v, .int .i64 u] w fun e w' => e = .returned (.int .u8 (kindU l u)) ∧ w = w' := by
 have HQ : RowKit.Hid (∀ x, kindU l u = x → (fun (e : Ending) w' => e = .returned (.int .u8 (kindU l u)) ∧ w = w') (.returned (.int .u8 x)) w) := Lib.hid fun x h => ⟨by rw [h], rfl⟩
 generalize (fun (e : Ending) w' => e = .returned (.int .u8 (kindU l u)) ∧ w = w') = Q at *
 obtain ⟨va, vcap, rfl, hvc⟩ := hr.slice
 by_cases hu : u < 0
 ·have HX := Lib.hid (HQ.out 69 (by unfold kindU kindI; rw [if_pos hu]))
  go_enter Tryz.func96, Tryz.ntmps96
  go_wp2_with fail
  exact HX.out
 ·obtain ⟨k, rfl⟩ : ∃ k : Nat, u = (k : Int) := ⟨u.toNat, by omega⟩
  have hk : k < l.length := by omega
  obtain ⟨b, off, rfl, _, _, hbl, hcell⟩ := hr.at (Below.refl _ _) (show 0 < l.length by omega)
  have c0 := (hcell k hk).1
  have hk0 : (0 : Int) ≤ (k : Int) := by omega
  have hkl : (k : Int) < l.length := by omega
  have hneg : ¬ (k : Int) < 0 := by omega
  have HX := Lib.hid (HQ.out ((l[k]).1 : Int) (by unfold kindU kindI; rw [if_neg hneg, Int.toNat_natCast, List.getElem?_eq_getElem hk]; rfl))
  clear hcell hr HQ
  generalize (l[k]).1 = x at *
  go_enter Tryz.func96, Tryz.ntmps96
  go_wp2_with fail
  exact HX.out
end Go.Proofs.YtlkheofphafofaaGreatDoor
namespace Go.Proofs.YtlkheofphafofaaGreatDoor
set_option linter.all false
attribute [local irreducible] Calls
open Go.RowKit

def upsL (l : List Prt) : List Int := (List.range l.length).map (upN l)
theorem upsL_length (l : List Prt) : (upsL l).length = l.length := by simp [upsL]
theorem upsL_get {l : List Prt} {j : Nat} (hj : j < (upsL l).length) : (upsL l)[j] = upN l j := by simp [upsL]
theorem kind_is (l : List Prt) (u : Int) (n : Nat) (hn : n ≠ 69) : (kindI l u == some n) = (kindU l u == (n : Int)) := by
 unfold kindU
 cases kindI l u with
 | none => simp; omega
 | some k => rw [Bool.eq_iff_iff]; simp; omega
set_option maxRecDepth 100000 in
set_option maxHeartbeats 8000000 in
theorem rule_stands (l : List Prt) (hl : l.length ≤ 1000000000) (v vup : Value) (w : World) (hr : PartRow w v l) (hup : RowInts w vup .i64 (upsL l)) (i : Nat) (hi : i < l.length) (k : Nat) :
  Calls Tryz.prog 72 #[v, vup, .int .i64 (i : Int), .int .u8 (k : Int)] w fun e w' => e = .returned (.bool (placeOK l k i)) ∧ w = w' := by
 have HQ : RowKit.Hid (∀ x, placeOK l k i = x → (fun (e : Ending) w' => e = .returned (.bool (placeOK l k i)) ∧ w = w') (.returned (.bool x)) w) := Lib.hid fun x h => ⟨by rw [h], rfl⟩
 generalize (fun (e : Ending) w' => e = .returned (.bool (placeOK l k i)) ∧ w = w') = Q at *
 have hge := upN_ge l i
 have hlt := upN_less l i
 have CK := Lib.hid (fun u h1 h2 => rule_kind l hl v u h1 h2 w hr)
 obtain ⟨ua, ucap, hv, hc, hrow⟩ := hup.open'
 obtain ⟨b, off, rfl, _, hcell⟩ := hrow (by rw [upsL_length]; omega)
 subst hv
 have c0 : w.cell? ⟨b, off + i, none⟩ = some (.int .i64 (upN l i)) := by rw [hcell i (by rw [upsL_length]; exact hi), upsL_get]
 rw [upsL_length] at hc ⊢
 have HC := Lib.hid hcell
 have hi0 : (0 : Int) ≤ (i : Int) := by omega
 have hil : (i : Int) < l.length := by omega
 clear hrow hup hr hcell
 have HP : RowKit.Hid (placeOK l k i = if k = 5 then kindU l (upN l i) == 50 else if k = 7 then (kindU l (upN l i) == 50 && kindU l (upN l (upN l i).toNat) == 13) else if k = 6 then (kindU l (upN l i) == 11 || kindU l (upN l i) == 12) else true) := Lib.hid (by
  unfold placeOK
  rw [kind_is _ _ 50 (by omega), kind_is _ _ 13 (by omega), kind_is _ _ 11 (by omega), kind_is _ _ 12 (by omega)]; rfl)
 have C1 := Lib.hid (CK.out (upN l i) hge (by omega))
 by_cases k5 : k = 5
 ·subst k5
  have HX := Lib.hid (HQ.out _ HP.out)
  rw [if_pos rfl] at HX
  generalize upN l i = u at *
  generalize kindU l u = x at *
  go_enter Tryz.func72, Tryz.ntmps72
  go_wp2_with fail
  refine C1.out.mono ?_
  rintro e w2 ⟨rfl, rfl⟩
  go_wp2_with fail
  exact HX.out
 have hn5 : ((k : Int) == 5) = false := by rw [beq_eq_false_iff_ne]; omega
 have hm5 : (k == 5) = false := by rw [beq_eq_false_iff_ne]; exact k5
 by_cases k7 : k = 7
 ·subst k7
  have HX := Lib.hid (HQ.out _ HP.out)
  rw [if_neg (by omega), if_pos rfl] at HX
  by_cases hx : kindU l (upN l i) = 50
  ·have hu0 : 0 ≤ upN l i := by
    by_cases c : upN l i < 0
    ·unfold kindU kindI at hx
     rw [if_pos c] at hx
     cases hx
    ·omega
   obtain ⟨j, hj⟩ : ∃ j : Nat, upN l i = (j : Int) := ⟨(upN l i).toNat, by omega⟩
   have hjl : j < l.length := by omega
   have c1 : w.cell? ⟨b, off + j, none⟩ = some (.int .i64 (upN l j)) := by rw [HC.out j (by rw [upsL_length]; exact hjl), upsL_get]
   have C2 := Lib.hid (CK.out (upN l j) (upN_ge l j) (by have := upN_less l j; omega))
   rw [hx, hj, Int.toNat_natCast] at HX
   rw [hx] at C1
   rw [hj] at C1 c0
   have hj0 : (0 : Int) ≤ (j : Int) := by omega
   have hjli : (j : Int) < l.length := by omega
   clear hx hj hge hlt hu0 HP HQ
   generalize upN l j = u at *
   generalize kindU l u = y at *
   go_enter Tryz.func72, Tryz.ntmps72
   go_wp2_with fail
   refine C1.out.mono ?_
   rintro e w2 ⟨rfl, rfl⟩
   go_wp2_with fail
   refine C2.out.mono ?_
   rintro e w2 ⟨rfl, rfl⟩
   go_wp2_with fail
   exact HX.out
  ·have hxb : (kindU l (upN l i) == 50) = false := by rw [beq_eq_false_iff_ne]; exact hx
   rw [hxb, Bool.false_and] at HX
   clear hx HP HQ
   generalize upN l i = u at *
   generalize kindU l u = x at *
   go_enter Tryz.func72, Tryz.ntmps72
   go_wp2_with fail
   refine C1.out.mono ?_
   rintro e w2 ⟨rfl, rfl⟩
   go_wp2_with fail
   exact HX.out
 have hn7 : ((k : Int) == 7) = false := by rw [beq_eq_false_iff_ne]; omega
 have hm7 : (k == 7) = false := by rw [beq_eq_false_iff_ne]; exact k7
 by_cases k6 : k = 6
 ·subst k6
  have HX := Lib.hid (HQ.out _ HP.out)
  rw [if_neg (by omega), if_neg (by omega), if_pos rfl] at HX
  clear HP HQ
  generalize upN l i = u at *
  generalize kindU l u = x at *
  cases hx : x == 11 with
  | true =>
   rw [hx, Bool.true_or] at HX
   go_enter Tryz.func72, Tryz.ntmps72
   go_wp2_with fail
   refine C1.out.mono ?_
   rintro e w2 ⟨rfl, rfl⟩
   go_wp2_with fail
   exact HX.out
  | false =>
   rw [hx, Bool.false_or] at HX
   go_enter Tryz.func72, Tryz.ntmps72
   go_wp2_with fail
   refine C1.out.mono ?_
   rintro e w2 ⟨rfl, rfl⟩
   go_wp2_with fail
   refine C1.out.mono ?_
   rintro e w2 ⟨rfl, rfl⟩
   go_wp2_with fail
   exact HX.out
 ·have hn6 : ((k : Int) == 6) = false := by rw [beq_eq_false_iff_ne]; omega
  have HX := Lib.hid (HQ.out _ HP.out)
  rw [if_neg k5, if_neg k7, if_neg k6] at HX
  clear HP HQ
  go_enter Tryz.func72, Tryz.ntmps72
  go_wp2_with fail
  exact HX.out
end Go.Proofs.YtlkheofphafofaaGreatDoor
namespace Go.Proofs.YtlkheofphafofaaGreatDoor
set_option linter.all false
attribute [local irreducible] Calls
open Go.RowKit

theorem pl_bytes_ne {x y : ByteArray} (h : x ≠ y) : x.toList ≠ y.toList := fun e => h (by
 rw [ByteArray.toList_eq, ByteArray.toList_eq] at e
 exact ByteArray.ext (Array.ext' e))
def UpsC (l : List Prt) : Prop := ∀ (v : Value) (w : World), PartRow w v l → Calls Tryz.prog 71 #[v] w fun e w' => ∃ v', e = .returned v' ∧ Below w.heap.size w w' ∧ RowInts w' v' .i64 (upsL l)
@[irreducible] def placedPost (z : Int) (w0 : World) (e : Ending) (w' : World) : Prop :=
 Below w0.heap.size w0 w' ∧ e = if 0 ≤ z then .returned (.tuple #[.int .i64 z, .bool true]) else .returned (.tuple #[.int .i64 0, .bool false])
def plRel (l : List Prt) (h : Hl) (w0 : World) (nv iv : Value) (wr : World) : Prop :=
 ∃ k n : Nat, iv = .int .i64 (k : Int) ∧ nv = .int .i64 (n : Int) ∧ k ≤ l.length ∧ n ≤ k ∧ placesF l h (l.length - k) k (n : Int) = placesZ l h ∧ Below w0.heap.size w0 wr
set_option maxRecDepth 100000 in
set_option maxHeartbeats 8000000 in
theorem rule_placed (l : List Prt) (hl : l.length ≤ 1000000000) (hf : ∀ p ∈ l, p.1 < 256) (CU : UpsC l) (v : Value) (h : Hl) (w : World) (hr : PartRow w v l) :
  Calls Tryz.prog 45 #[v, .agg #[.string h.1, .int .u8 (h.2 : Int)]] w (placedPost (placesZ l h) w) := by
 have HQ : RowKit.Hid (∀ w', Below w.heap.size w w' → 0 ≤ placesZ l h → placedPost (placesZ l h) w (.returned (.tuple #[.int .i64 (placesZ l h), .bool true])) w') := Lib.hid fun w' hb hz => by
  unfold placedPost; rw [if_pos hz]; exact ⟨hb, rfl⟩
 have HN : RowKit.Hid (∀ w', Below w.heap.size w w' → placesZ l h = -1 → placedPost (placesZ l h) w (.returned (.tuple #[.int .i64 0, .bool false])) w') := Lib.hid fun w' hb hz => by
  unfold placedPost; rw [if_neg (by omega)]; exact ⟨hb, rfl⟩
 generalize placedPost (placesZ l h) w = Q at *
 have hbx : Below w.heap.size w (w.alloc (.cells #[.string h.1, .int .u8 (h.2 : Int)] 43)) := (Below.refl _ _).alloc (Nat.le_refl _) _
 have HBX := Lib.hid hbx
 have CU := Lib.hid (CU v _ (hr.below hbx))
 have e0 : (w.alloc (.cells #[.string h.1, .int .u8 (h.2 : Int)] 43)).cell? ⟨w.heap.size, 0, none⟩ = some (.string h.1) := World.cell?_alloc_at _ _ _ _ rfl
 have e1 : (w.alloc (.cells #[.string h.1, .int .u8 (h.2 : Int)] 43)).cell? ⟨w.heap.size, 1, none⟩ = some (.int .u8 (h.2 : Int)) := World.cell?_alloc_at _ _ _ _ rfl
 have hz0 : w.heap.size < (w.alloc (.cells #[.string h.1, .int .u8 (h.2 : Int)] 43)).heap.size := by simp
 have HR := Lib.hid hr
 obtain ⟨va, vcap, rfl, hvc⟩ := hr.slice
 clear hr hbx
 go_enter Tryz.func45, Tryz.ntmps45
 go_wp2_with fail
 refine CU.out.mono ?_
 rintro e w1 ⟨vu, rfl, hb1, hup⟩
 have HB1 := Lib.hid (bthen HBX.out hb1)
 have HU := Lib.hid hup
 have HE0 := Lib.hid (show w1.cell? ⟨w.heap.size, 0, none⟩ = some (.string h.1) by rw [hb1.cell (p := ⟨w.heap.size, 0, none⟩) hz0]; exact e0)
 have HE1 := Lib.hid (show w1.cell? ⟨w.heap.size, 1, none⟩ = some (.int .u8 (h.2 : Int)) by rw [hb1.cell (p := ⟨w.heap.size, 1, none⟩) hz0]; exact e1)
 have HZ1 := Lib.hid (show w.heap.size < w1.heap.size from Nat.lt_of_lt_of_le hz0 hb1.size)
 obtain ⟨ua, ucap, hvu, _, _⟩ := hup.open'
 subst hvu
 clear hb1 hup e0 e1 hz0 CU HBX
 go_wp2_with fail
 go_loopw [6, 14] (fun nv iv wr => plRel l h w1 nv iv wr) (fun _ iv _ => l.length - (intOf iv).toNat)
 case atStart => exact ⟨0, 0, rfl, rfl, Nat.zero_le _, Nat.le_refl _, rfl, Below.refl _ _⟩
 case round =>
  obtain ⟨k, n, rfl, rfl, hk, hnk, hpf, hb⟩ := hrel
  have HB := Lib.hid hb
  have HPF := Lib.hid hpf
  clear hb hpf
  by_cases hlt : k < l.length
  ·obtain ⟨b, off, rfl, _, _, hbl, hcell⟩ := HR.out.at (bthen HB1.out HB.out) (show 0 < l.length by omega)
   obtain ⟨d0, d1, d2⟩ := hcell k hlt
   have hs := HPF.out
   rw [show l.length - k = (l.length - (k + 1)) + 1 by omega, placesF, List.getElem?_eq_getElem hlt] at hs
   generalize hp : l[k] = p at *
   obtain ⟨a, c, s⟩ := p
   simp only [] at d0 d1 d2 hs
   have hbp : Below w1.heap.size w1 (wr.alloc (.cells #[.int .u8 (a : Int), .int .i64 c, .string s] 48)) := HB.out.alloc HB.out.size _
   have g0 : (wr.alloc (.cells #[.int .u8 (a : Int), .int .i64 c, .string s] 48)).cell? ⟨w.heap.size, 0, none⟩ = some (.string h.1) := by
    rw [hbp.cell (p := ⟨w.heap.size, 0, none⟩) HZ1.out]; exact HE0.out
   have g1 : (wr.alloc (.cells #[.int .u8 (a : Int), .int .i64 c, .string s] 48)).cell? ⟨w.heap.size, 1, none⟩ = some (.int .u8 (h.2 : Int)) := by
    rw [hbp.cell (p := ⟨w.heap.size, 1, none⟩) HZ1.out]; exact HE1.out
   have hrp := HR.out.below (bthen HB1.out hbp)
   have CS := Lib.hid (rule_stands l hl _ _ _ hrp (HU.out.below hbp) k hlt h.2)
   have HBP := Lib.hid hbp
   have HS := Lib.hid hs
   clear hbp hrp hs hcell
   by_cases ha : a = 26
   ·subst ha
    rw [show ((26 : Nat) : Int) = 26 from rfl] at d0 g0 g1 CS HBP
    by_cases hw : s = h.1
    ·subst hw
     by_cases ho : placeOK l h.2 k = true
     ·have HX : RowKit.Hid (placesF l h (l.length - (k + 1)) (k + 1) ((n : Int) + 1) = placesZ l h) := Lib.hid (by
       have := HS.out; unfold isPlace at this; simpa [ho] using this)
      rw [ho] at CS
      go_wp2_with fail
      refine CS.out.mono ?_
      rintro e w2 ⟨rfl, rfl⟩
      go_wp2_with fail
      case roundEnd => exact ⟨⟨k + 1, n + 1, by push_cast; rfl, by push_cast; rfl, by omega, by omega, by have := HX.out; push_cast; exact this, HBP.out⟩, by simp only [intOf]; omega⟩
     ·have ho : placeOK l h.2 k = false := by simpa using ho
      have HX : RowKit.Hid (placesZ l h = -1) := Lib.hid (by
       have := HS.out; unfold isPlace at this; simpa [ho] using this.symm)
      rw [ho] at CS
      go_wp2_with fail
      refine CS.out.mono ?_
      rintro e w2 ⟨rfl, rfl⟩
      go_wp2_with fail
      exact HN.out _ (bthen HB1.out HBP.out) HX.out
    ·have HX : RowKit.Hid (placesF l h (l.length - (k + 1)) (k + 1) (n : Int) = placesZ l h) := Lib.hid (by
      have := HS.out; unfold isPlace at this; simpa [hw] using this)
     have g2 : (s.toList == h.1.toList) = false := by rw [beq_eq_false_iff_ne]; exact pl_bytes_ne hw
     go_wp2_with fail
     case roundEnd => exact ⟨⟨k + 1, n, by push_cast; rfl, rfl, by omega, by omega, HX.out, HBP.out⟩, by simp only [intOf]; omega⟩
   ·have HX : RowKit.Hid (placesF l h (l.length - (k + 1)) (k + 1) (n : Int) = placesZ l h) := Lib.hid (by
     have := HS.out; unfold isPlace at this; simpa [ha] using this)
    have g2 : ((a : Int) == 26) = false := by rw [beq_eq_false_iff_ne]; omega
    go_wp2_with fail
    case roundEnd => exact ⟨⟨k + 1, n, by push_cast; rfl, rfl, by omega, by omega, HX.out, HBP.out⟩, by simp only [intOf]; omega⟩
  ·have hkl : k = l.length := by omega
   subst hkl
   have hz := HPF.out
   rw [Nat.sub_self, placesF] at hz
   have HX := Lib.hid (HQ.out wr (bthen HB1.out HB.out) (by omega))
   rw [← hz] at HX
   go_wp2_with fail
   exact HX.out
end Go.Proofs.YtlkheofphafofaaGreatDoor
namespace Go.Proofs.YtlkheofphafofaaGreatDoor
set_option linter.all false
attribute [local irreducible] Calls
open Go.RowKit

set_option maxRecDepth 100000 in
set_option maxHeartbeats 4000000 in
theorem ref_Place (p : Prt) (s : ByteArray) (k : Nat) (w : World) :
  Calls Tryz.prog 78 #[.agg #[.int .u8 (p.1 : Int), .int .i64 p.2.1, .string p.2.2], .agg #[.string s, .int .u8 (k : Int)]] w fun e w' => e = .returned (.bool (p.1 == 26 && decide (p.2.2 = s))) ∧ Below w.heap.size w w' := by
 have HX := Lib.hid (((Below.refl w.heap.size w).alloc (Nat.le_refl _) (.cells #[.int .u8 (p.1 : Int), .int .i64 p.2.1, .string p.2.2] 48)).alloc (by simp) (.cells #[.string s, .int .u8 (k : Int)] 43))
 have HQ : RowKit.Hid (∀ x w', (p.1 == 26 && decide (p.2.2 = s)) = x → Below w.heap.size w w' → (fun (e : Ending) w' => e = .returned (.bool (p.1 == 26 && decide (p.2.2 = s))) ∧ Below w.heap.size w w') (.returned (.bool x)) w') := Lib.hid fun x w' h hb => ⟨by rw [h], hb⟩
 generalize (fun (e : Ending) w' => e = .returned (.bool (p.1 == 26 && decide (p.2.2 = s))) ∧ Below w.heap.size w w') = Q at *
 obtain ⟨pk, pn, pw⟩ := p
 simp only [] at HX HQ ⊢
 by_cases h1 : pk = 26
 ·subst h1
  by_cases h2 : pw = s
  ·subst h2
   have HZ := Lib.hid (HQ.out true _ (by simp) HX.out)
   go_enter Tryz.func78, Tryz.ntmps78
   go_wp2_with fail
   exact HZ.out
  ·have g2 : (pw.toList == s.toList) = false := by rw [beq_eq_false_iff_ne]; exact pl_bytes_ne h2
   have HZ := Lib.hid (HQ.out false _ (by simp [h2]) HX.out)
   go_enter Tryz.func78, Tryz.ntmps78
   go_wp2_with fail
   exact HZ.out
 ·have g1 : ((pk : Int) == 26) = false := by rw [beq_eq_false_iff_ne]; omega
  have HZ := Lib.hid (HQ.out false _ (by simp [h1]) HX.out)
  clear h1
  go_enter Tryz.func78, Tryz.ntmps78
  go_wp2_with fail
  exact HZ.out
theorem may_val2 {hole k : Nat} (h1 : 1 ≤ hole) (h5 : hole ≤ 5) : mayB hole k = (match hole with
  | 1 => decide (26 ≤ k) && (decide (k ≤ 48) && k != 38)
  | 2 => k == 26
  | 3 => k == 27
  | 4 => k == 26 || ((decide (28 ≤ k) && decide (k ≤ 30)) || (k == 35 || (decide (41 ≤ k) && decide (k ≤ 48))))
  | _ => decide (49 ≤ k) && (decide (k ≤ 68) && (k != 62 && k != 64))) := by
 have hh : hole = 1 ∨ hole = 2 ∨ hole = 3 ∨ hole = 4 ∨ hole = 5 := by omega
 rcases hh with rfl | rfl | rfl | rfl | rfl <;> rfl
set_option maxRecDepth 100000 in
set_option maxHeartbeats 16000000 in
theorem ref_May17 (hole k : Nat) (h1 : 1 ≤ hole) (h5 : hole ≤ 5) (hk : k < 256) (w : World) :
  Calls Tryz.prog 23 #[.int .u8 (hole : Int), .int .u8 (k : Int)] w fun e w' => e = .returned (.bool (mayB hole k)) ∧ w = w' := by
 have HQ : RowKit.Hid (∀ x, mayB hole k = x → (fun (e : Ending) w' => e = .returned (.bool (mayB hole k)) ∧ w = w') (.returned (.bool x)) w) := Lib.hid fun x h => ⟨by rw [h], rfl⟩
 generalize (fun (e : Ending) w' => e = .returned (.bool (mayB hole k)) ∧ w = w') = Q at *
 have hh : hole = 1 ∨ hole = 2 ∨ hole = 3 ∨ hole = 4 ∨ hole = 5 := by omega
 have HV := Lib.hid (may_val2 (k := k) h1 h5)
 rcases hh with rfl | rfl | rfl | rfl | rfl
 all_goals
  go_enter Tryz.func23, Tryz.ntmps23
  go_wp2_with fail
  all_goals
   refine HQ.out _ ?_
   rw [HV.out, Bool.eq_iff_iff]
   first
    | (simp; done)
    | (simp; omega)
end Go.Proofs.YtlkheofphafofaaGreatDoor
namespace Go.Proofs.YtlkheofphafofaaGreatDoor
set_option linter.all false

structure KidSeq (f : List Prt) (p q : Nat) (kp : Nat → Nat) : Prop where
 len : (kidsB f p).length = q
 get : ∀ c, c < q → (kidsB f p)[c]? = some (kp c)
 lt : ∀ c, c < q → kp c < f.length
 nx : ∀ c, c < q → endB f (kp c) = kp (c + 1)
 up : ∀ c, c < q → kp c < kp (c + 1)
 le : ∀ c, c ≤ q → kp c ≤ endB f p
 z : kp 0 = p + 1
 e : kp q = endB f p
 n : (q : Int) ≤ f.length
theorem kid_seq {f : List Prt} {us : List Nat} (h : rowsB f = some us) {p : Nat} (hp : p < f.length) : ∃ q kp, KidSeq f p q kp := by
 obtain ⟨ts, q, f1, f2, f3, f4, f5⟩ := kids_facts h hp
 have hl := (rowsB_sum f1).2.1
 rw [List.length_drop] at hl
 refine ⟨q, fun c => p + 1 + (ts.take c).sum, ⟨?_, fun c hc => ?_, fun c hc => ?_, fun c hc => ?_, fun c hc => ?_, fun c hc => ?_, by simp, f4.symm, by omega⟩⟩
 ·rw [f5, List.length_take, starts_length]; omega
 ·obtain ⟨_, _, g3, _⟩ := kid_step h f1 f3 hc
  have e1 : (starts (p + 1) ts)[c]? = some (p + 1 + (ts.take c).sum) := by
   have e2 : ((starts (p + 1) ts).take (c + 1))[c]? = some (p + 1 + (ts.take c).sum) := by
    rw [g3, List.getElem?_append_right (by rw [List.length_take, starts_length]; omega), List.length_take, starts_length, Nat.min_eq_left (by omega), Nat.sub_self]
    rfl
   rw [List.getElem?_take_of_lt (by omega)] at e2
   exact e2
  rw [f5, List.getElem?_take_of_lt hc, e1]
 ·exact (kid_step h f1 f3 hc).1
 ·exact (kid_step h f1 f3 hc).2.1
 ·have := (kid_step h f1 f3 hc).2.2.2.2.1
  show p + 1 + _ < p + 1 + _
  omega
 ·rw [f4]
  have := sum_take_add ts c (q - c)
  rw [show c + (q - c) = q by omega] at this
  show p + 1 + _ ≤ p + 1 + _
  omega
section
variable {f l : List Prt} {hs : List Hl} {L : Nat → Nat}
theorem fk_end {N p a stop : Nat} {σ : MSt} : fKids f l hs L (N + 1) p p a stop σ = if a = stop then some σ else none := by rw [fKids, if_pos rfl]
theorem fk_one {N p pend a stop : Nat} {σ : MSt} (hne : p ≠ pend) (hs' : sevOf f hs p = none) : fKids f l hs L (N + 1) p pend a stop σ = if a < stop then (fPart f l hs L N p a σ).bind fun σ' => fKids f l hs L N (endB f p) pend (endB l a) stop σ' else none := by rw [fKids, if_neg hne, hs']
theorem fk_sev {N p pend a stop h : Nat} {σ : MSt} (hne : p ≠ pend) (hs' : sevOf f hs p = some h) : fKids f l hs L (N + 1) p pend a stop σ = (advT l (L h) a stop).bind fun tx => (bindS l σ h a tx).bind fun σ' => fKids f l hs L N (endB f p) pend tx stop σ' := by rw [fKids, if_neg hne, hs']
theorem fp_else {n p i : Nat} {σ : MSt} (ho : oneOf f hs p = none) : fPart f l hs L (n + 1) p i σ = if alikeP f l p i then fKids f l hs L n (p + 1) (endB f p) (i + 1) (endB l i) σ else none := by rw [fPart, ho]
end
end Go.Proofs.YtlkheofphafofaaGreatDoor
