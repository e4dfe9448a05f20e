/- Layer 16: the program's placed, walked (with the contract of ups handed in). -/
import Derived.Test.YtlkheofphafofaaGreatDoorRuleVMd
import Derived.Test.YtlkheofphafofaaGreatDoorMatchPMd
import Derived.Test.YtlkheofphafofaaGreatDoorTermMd
import Derived.Test.YtlkheofphafofaaGreatDoorStillMd
namespace Go.Proofs.YtlkheofphafofaaGreatDoor
set_option linter.all false
attribute [local irreducible] Calls
open Go.RowKit

theorem pl_bytes_ne {x y : ByteArray} (h : x ≠ y) : x.toList ≠ y.toList := fun e => h (by
 rw [ByteArray.toList_eq, ByteArray.toList_eq] at e
 exact ByteArray.ext (Array.ext' e))
def UpsC (l : List Prt) : Prop := ∀ (v : Value) (w : World), PartRow w v l → Calls Tryz.prog 71 #[v] w fun e w' => ∃ v', e = .returned v' ∧ Below w.heap.size w w' ∧ RowInts w' v' .i64 (upsL l)
@[irreducible] def placedPost (z : Int) (w0 : World) (e : Ending) (w' : World) : Prop :=
 Below w0.heap.size w0 w' ∧ e = if 0 ≤ z then .returned (.tuple #[.int .i64 z, .bool true]) else .returned (.tuple #[.int .i64 0, .bool false])
def plRel (l : List Prt) (h : Hl) (w0 : World) (nv iv : Value) (wr : World) : Prop :=
 ∃ k n : Nat, iv = .int .i64 (k : Int) ∧ nv = .int .i64 (n : Int) ∧ k ≤ l.length ∧ n ≤ k ∧ placesF l h (l.length - k) k (n : Int) = placesZ l h ∧ Below w0.heap.size w0 wr
set_option maxRecDepth 100000 in
set_option maxHeartbeats 8000000 in
theorem rule_placed (l : List Prt) (hl : l.length ≤ 1000000000) (hf : ∀ p ∈ l, p.1 < 256) (CU : UpsC l) (v : Value) (h : Hl) (w : World) (hr : PartRow w v l) :
  Calls Tryz.prog 45 #[v, .agg #[.string h.1, .int .u8 (h.2 : Int)]] w (placedPost (placesZ l h) w) := by
 have HQ : RowKit.Hid (∀ w', Below w.heap.size w w' → 0 ≤ placesZ l h → placedPost (placesZ l h) w (.returned (.tuple #[.int .i64 (placesZ l h), .bool true])) w') := Lib.hid fun w' hb hz => by
  unfold placedPost; rw [if_pos hz]; exact ⟨hb, rfl⟩
 have HN : RowKit.Hid (∀ w', Below w.heap.size w w' → placesZ l h = -1 → placedPost (placesZ l h) w (.returned (.tuple #[.int .i64 0, .bool false])) w') := Lib.hid fun w' hb hz => by
  unfold placedPost; rw [if_neg (by omega)]; exact ⟨hb, rfl⟩
 generalize placedPost (placesZ l h) w = Q at *
 have hbx : Below w.heap.size w (w.alloc (.cells #[.string h.1, .int .u8 (h.2 : Int)] 43)) := (Below.refl _ _).alloc (Nat.le_refl _) _
 have HBX := Lib.hid hbx
 have CU := Lib.hid (CU v _ (hr.below hbx))
 have e0 : (w.alloc (.cells #[.string h.1, .int .u8 (h.2 : Int)] 43)).cell? ⟨w.heap.size, 0, none⟩ = some (.string h.1) := World.cell?_alloc_at _ _ _ _ rfl
 have e1 : (w.alloc (.cells #[.string h.1, .int .u8 (h.2 : Int)] 43)).cell? ⟨w.heap.size, 1, none⟩ = some (.int .u8 (h.2 : Int)) := World.cell?_alloc_at _ _ _ _ rfl
 have hz0 : w.heap.size < (w.alloc (.cells #[.string h.1, .int .u8 (h.2 : Int)] 43)).heap.size := by simp
 have HR := Lib.hid hr
 obtain ⟨va, vcap, rfl, hvc⟩ := hr.slice
 clear hr hbx
 go_enter Tryz.func45, Tryz.ntmps45
 go_wp2_with fail
 refine CU.out.mono ?_
 rintro e w1 ⟨vu, rfl, hb1, hup⟩
 have HB1 := Lib.hid (bthen HBX.out hb1)
 have HU := Lib.hid hup
 have HE0 := Lib.hid (show w1.cell? ⟨w.heap.size, 0, none⟩ = some (.string h.1) by rw [hb1.cell (p := ⟨w.heap.size, 0, none⟩) hz0]; exact e0)
 have HE1 := Lib.hid (show w1.cell? ⟨w.heap.size, 1, none⟩ = some (.int .u8 (h.2 : Int)) by rw [hb1.cell (p := ⟨w.heap.size, 1, none⟩) hz0]; exact e1)
 have HZ1 := Lib.hid (show w.heap.size < w1.heap.size from Nat.lt_of_lt_of_le hz0 hb1.size)
 obtain ⟨ua, ucap, hvu, _, _⟩ := hup.open'
 subst hvu
 clear hb1 hup e0 e1 hz0 CU HBX
 go_wp2_with fail
 go_loopw [6, 14] (fun nv iv wr => plRel l h w1 nv iv wr) (fun _ iv _ => l.length - (intOf iv).toNat)
 case atStart => exact ⟨0, 0, rfl, rfl, Nat.zero_le _, Nat.le_refl _, rfl, Below.refl _ _⟩
 case round =>
  obtain ⟨k, n, rfl, rfl, hk, hnk, hpf, hb⟩ := hrel
  have HB := Lib.hid hb
  have HPF := Lib.hid hpf
  clear hb hpf
  by_cases hlt : k < l.length
  ·obtain ⟨b, off, rfl, _, _, hbl, hcell⟩ := HR.out.at (bthen HB1.out HB.out) (show 0 < l.length by omega)
   obtain ⟨d0, d1, d2⟩ := hcell k hlt
   have hs := HPF.out
   rw [show l.length - k = (l.length - (k + 1)) + 1 by omega, placesF, List.getElem?_eq_getElem hlt] at hs
   generalize hp : l[k] = p at *
   obtain ⟨a, c, s⟩ := p
   simp only [] at d0 d1 d2 hs
   have hbp : Below w1.heap.size w1 (wr.alloc (.cells #[.int .u8 (a : Int), .int .i64 c, .string s] 48)) := HB.out.alloc HB.out.size _
   have g0 : (wr.alloc (.cells #[.int .u8 (a : Int), .int .i64 c, .string s] 48)).cell? ⟨w.heap.size, 0, none⟩ = some (.string h.1) := by
    rw [hbp.cell (p := ⟨w.heap.size, 0, none⟩) HZ1.out]; exact HE0.out
   have g1 : (wr.alloc (.cells #[.int .u8 (a : Int), .int .i64 c, .string s] 48)).cell? ⟨w.heap.size, 1, none⟩ = some (.int .u8 (h.2 : Int)) := by
    rw [hbp.cell (p := ⟨w.heap.size, 1, none⟩) HZ1.out]; exact HE1.out
   have hrp := HR.out.below (bthen HB1.out hbp)
   have CS := Lib.hid (rule_stands l hl _ _ _ hrp (HU.out.below hbp) k hlt h.2)
   have HBP := Lib.hid hbp
   have HS := Lib.hid hs
   clear hbp hrp hs hcell
   by_cases ha : a = 26
   ·subst ha
    rw [show ((26 : Nat) : Int) = 26 from rfl] at d0 g0 g1 CS HBP
    by_cases hw : s = h.1
    ·subst hw
     by_cases ho : placeOK l h.2 k = true
     ·have HX : RowKit.Hid (placesF l h (l.length - (k + 1)) (k + 1) ((n : Int) + 1) = placesZ l h) := Lib.hid (by
       have := HS.out; unfold isPlace at this; simpa [ho] using this)
      rw [ho] at CS
      go_wp2_with fail
      refine CS.out.mono ?_
      rintro e w2 ⟨rfl, rfl⟩
      go_wp2_with fail
      case roundEnd => exact ⟨⟨k + 1, n + 1, by push_cast; rfl, by push_cast; rfl, by omega, by omega, by have := HX.out; push_cast; exact this, HBP.out⟩, by simp only [intOf]; omega⟩
     ·have ho : placeOK l h.2 k = false := by simpa using ho
      have HX : RowKit.Hid (placesZ l h = -1) := Lib.hid (by
       have := HS.out; unfold isPlace at this; simpa [ho] using this.symm)
      rw [ho] at CS
      go_wp2_with fail
      refine CS.out.mono ?_
      rintro e w2 ⟨rfl, rfl⟩
      go_wp2_with fail
      exact HN.out _ (bthen HB1.out HBP.out) HX.out
    ·have HX : RowKit.Hid (placesF l h (l.length - (k + 1)) (k + 1) (n : Int) = placesZ l h) := Lib.hid (by
      have := HS.out; unfold isPlace at this; simpa [hw] using this)
     have g2 : (s.toList == h.1.toList) = false := by rw [beq_eq_false_iff_ne]; exact pl_bytes_ne hw
     go_wp2_with fail
     case roundEnd => exact ⟨⟨k + 1, n, by push_cast; rfl, rfl, by omega, by omega, HX.out, HBP.out⟩, by simp only [intOf]; omega⟩
   ·have HX : RowKit.Hid (placesF l h (l.length - (k + 1)) (k + 1) (n : Int) = placesZ l h) := Lib.hid (by
     have := HS.out; unfold isPlace at this; simpa [ha] using this)
    have g2 : ((a : Int) == 26) = false := by rw [beq_eq_false_iff_ne]; omega
    go_wp2_with fail
    case roundEnd => exact ⟨⟨k + 1, n, by push_cast; rfl, rfl, by omega, by omega, HX.out, HBP.out⟩, by simp only [intOf]; omega⟩
  ·have hkl : k = l.length := by omega
   subst hkl
   have hz := HPF.out
   rw [Nat.sub_self, placesF] at hz
   have HX := Lib.hid (HQ.out wr (bthen HB1.out HB.out) (by omega))
   rw [← hz] at HX
   go_wp2_with fail
   exact HX.out
end Go.Proofs.YtlkheofphafofaaGreatDoor
namespace Go.Proofs.YtlkheofphafofaaGreatDoor
set_option linter.all false
attribute [local irreducible] Calls
open Go.RowKit

set_option maxRecDepth 100000 in
set_option maxHeartbeats 4000000 in
theorem ref_Place (p : Prt) (s : ByteArray) (k : Nat) (w : World) :
  Calls Tryz.prog 78 #[.agg #[.int .u8 (p.1 : Int), .int .i64 p.2.1, .string p.2.2], .agg #[.string s, .int .u8 (k : Int)]] w fun e w' => e = .returned (.bool (p.1 == 26 && decide (p.2.2 = s))) ∧ Below w.heap.size w w' := by
 have HX := Lib.hid (((Below.refl w.heap.size w).alloc (Nat.le_refl _) (.cells #[.int .u8 (p.1 : Int), .int .i64 p.2.1, .string p.2.2] 48)).alloc (by simp) (.cells #[.string s, .int .u8 (k : Int)] 43))
 have HQ : RowKit.Hid (∀ x w', (p.1 == 26 && decide (p.2.2 = s)) = x → Below w.heap.size w w' → (fun (e : Ending) w' => e = .returned (.bool (p.1 == 26 && decide (p.2.2 = s))) ∧ Below w.heap.size w w') (.returned (.bool x)) w') := Lib.hid fun x w' h hb => ⟨by rw [h], hb⟩
 generalize (fun (e : Ending) w' => e = .returned (.bool (p.1 == 26 && decide (p.2.2 = s))) ∧ Below w.heap.size w w') = Q at *
 obtain ⟨pk, pn, pw⟩ := p
 simp only [] at HX HQ ⊢
 by_cases h1 : pk = 26
 ·subst h1
  by_cases h2 : pw = s
  ·subst h2
   have HZ := Lib.hid (HQ.out true _ (by simp) HX.out)
   go_enter Tryz.func78, Tryz.ntmps78
   go_wp2_with fail
   exact HZ.out
  ·have g2 : (pw.toList == s.toList) = false := by rw [beq_eq_false_iff_ne]; exact pl_bytes_ne h2
   have HZ := Lib.hid (HQ.out false _ (by simp [h2]) HX.out)
   go_enter Tryz.func78, Tryz.ntmps78
   go_wp2_with fail
   exact HZ.out
 ·have g1 : ((pk : Int) == 26) = false := by rw [beq_eq_false_iff_ne]; omega
  have HZ := Lib.hid (HQ.out false _ (by simp [h1]) HX.out)
  clear h1
  go_enter Tryz.func78, Tryz.ntmps78
  go_wp2_with fail
  exact HZ.out
theorem may_val2 {hole k : Nat} (h1 : 1 ≤ hole) (h5 : hole ≤ 5) : mayB hole k = (match hole with
  | 1 => decide (26 ≤ k) && (decide (k ≤ 48) && k != 38)
  | 2 => k == 26
  | 3 => k == 27
  | 4 => k == 26 || ((decide (28 ≤ k) && decide (k ≤ 30)) || (k == 35 || (decide (41 ≤ k) && decide (k ≤ 48))))
  | _ => decide (49 ≤ k) && (decide (k ≤ 68) && (k != 62 && k != 64))) := by
 have hh : hole = 1 ∨ hole = 2 ∨ hole = 3 ∨ hole = 4 ∨ hole = 5 := by omega
 rcases hh with rfl | rfl | rfl | rfl | rfl <;> rfl
set_option maxRecDepth 100000 in
set_option maxHeartbeats 16000000 in
theorem ref_May17 (hole k : Nat) (h1 : 1 ≤ hole) (h5 : hole ≤ 5) (hk : k < 256) (w : World) :
  Calls Tryz.prog 23 #[.int .u8 (hole : Int), .int .u8 (k : Int)] w fun e w' => e = .returned (.bool (mayB hole k)) ∧ w = w' := by
 have HQ : RowKit.Hid (∀ x, mayB hole k = x → (fun (e : Ending) w' => e = .returned (.bool (mayB hole k)) ∧ w = w') (.returned (.bool x)) w) := Lib.hid fun x h => ⟨by rw [h], rfl⟩
 generalize (fun (e : Ending) w' => e = .returned (.bool (mayB hole k)) ∧ w = w') = Q at *
 have hh : hole = 1 ∨ hole = 2 ∨ hole = 3 ∨ hole = 4 ∨ hole = 5 := by omega
 have HV := Lib.hid (may_val2 (k := k) h1 h5)
 rcases hh with rfl | rfl | rfl | rfl | rfl
 all_goals
  go_enter Tryz.func23, Tryz.ntmps23
  go_wp2_with fail
  all_goals
   refine HQ.out _ ?_
   rw [HV.out, Bool.eq_iff_iff]
   first
    | (simp; done)
    | (simp; omega)
end Go.Proofs.YtlkheofphafofaaGreatDoor
namespace Go.Proofs.YtlkheofphafofaaGreatDoor
set_option linter.all false
attribute [local irreducible] Calls
attribute [local irreducible] wpStill
open Go.RowKit

def holeI (o : Option Nat) : Int := match o with
 | some h => (h : Int)
 | none => -1
def hoRel (f : List Prt) (hs : List Hl) (p : Nat) (w : World) (hv : Value) (wr : World) : Prop := ∃ k : Nat, hv = .int .i64 (k : Int) ∧ k ≤ hs.length ∧ (∀ j (hj : j < hs.length), j < k → standsAt f p hs[j] = false) ∧ Below w.heap.size w wr
theorem hole_here {f : List Prt} {hs : List Hl} {p k : Nat} (hk : k < hs.length) (hn : ∀ j (hj : j < hs.length), j < k → standsAt f p hs[j] = false) (h : standsAt f p hs[k] = true) : holeI (holeOf f hs p) = (k : Int) := by
 unfold holeOf
 rw [List.findIdx?_eq_some_iff_getElem.2 ⟨hk, h, fun j hj => by rw [hn j (by omega) hj]; decide⟩]
 rfl
theorem hole_none {f : List Prt} {hs : List Hl} {p : Nat} (hn : ∀ j (hj : j < hs.length), j < hs.length → standsAt f p hs[j] = false) : holeI (holeOf f hs p) = -1 := by
 unfold holeOf
 rw [List.findIdx?_eq_none_iff.2 (fun x hx => by obtain ⟨j, hj, rfl⟩ := List.mem_iff_getElem.1 hx; exact hn j hj hj)]
 rfl
set_option maxRecDepth 100000 in
set_option maxHeartbeats 8000000 in
theorem ref_Hole (f : List Prt) (hs : List Hl) (hf : f.length ≤ 1048576) (hh : hs.length ≤ 1048576) (p : Nat) (hp : p < f.length) (vf vh : Value) (w : World) (hrf : PartRow w vf f) (hrh : HoleRow w vh hs) :
  Calls Tryz.prog 49 #[vf, vh, .int .i64 (p : Int)] w fun e w' => e = .returned (.int .i64 (holeI (holeOf f hs p))) ∧ Below w.heap.size w w' := by
 have HQ : RowKit.Hid (∀ x w', holeI (holeOf f hs p) = x → Below w.heap.size w w' → (fun (e : Ending) w' => e = .returned (.int .i64 (holeI (holeOf f hs p))) ∧ Below w.heap.size w w') (.returned (.int .i64 x)) w') := Lib.hid fun x w' h hb => ⟨by rw [h], hb⟩
 generalize (fun (e : Ending) w' => e = .returned (.int .i64 (holeI (holeOf f hs p))) ∧ Below w.heap.size w w') = Q at *
 obtain ⟨af, cf, rfl, hcf⟩ := hrf.slice
 obtain ⟨ah, ch, rfl, hch⟩ := Row.shape hrh
 have HF := Lib.hid hrf
 have HH := Lib.hid hrh
 clear hrf hrh
 go_enter Tryz.func49, Tryz.ntmps49
 go_wp2_with fail
 go_loopw [7] (fun hv wr => hoRel f hs p w hv wr) (fun hv _ => hs.length - (intOf hv).toNat)
 case atStart => exact ⟨0, rfl, Nat.zero_le _, fun j hj h => absurd h (by omega), Below.refl _ _⟩
 case round =>
  obtain ⟨k, rfl, hk, hno, hb⟩ := hrel
  have HB := Lib.hid hb
  have HNO := Lib.hid hno
  clear hb hno
  by_cases hlt : k < hs.length
  ·obtain ⟨b, off, rfl, _, _, _, hcm⟩ := HH.out.at HB.out (show 0 < hs.length by omega)
   obtain ⟨c0, c1⟩ := hcm k hlt
   have hk0 : (0 : Int) ≤ (k : Int) := by omega
   have hkl : (k : Int) < hs.length := by omega
   have hkc : (k : Int) < ch := by omega
   have HX : RowKit.Hid (standsAt f p hs[k] = false → ∀ W, Below w.heap.size w W → hoRel f hs p w (.int .i64 ((k : Int) + 1)) W) := Lib.hid fun h W hb => ⟨k + 1, by push_cast; rfl, hlt, fun j hj hjk => by
    by_cases e : j = k
    ·subst e; exact h
    ·exact HNO.out j hj (by omega), hb⟩
   have HY : RowKit.Hid (standsAt f p hs[k] = true → holeI (holeOf f hs p) = (k : Int)) := Lib.hid fun h => hole_here hlt HNO.out h
   clear hcm
   generalize hs[k] = x at *
   obtain ⟨xs, xk⟩ := x
   simp only [] at c0 c1
   obtain ⟨fb, fo, rfl, _, _, _, hcm⟩ := HF.out.at HB.out (show 0 < f.length by omega)
   obtain ⟨d0, d1, d2⟩ := hcm p hp
   have hp0 : (0 : Int) ≤ (p : Int) := by omega
   have hpl : (p : Int) < f.length := by omega
   have hpc : (p : Int) < cf := by omega
   by_cases hst : isStmt xk = true
   ·have hx : xk = 5 ∨ xk = 7 := by unfold isStmt at hst; simp at hst; exact hst
    by_cases h50 : (f[p]).1 = 50
    case neg =>
     have hsa : standsAt f p (xs, xk) = false := by
      unfold standsAt
      rw [if_pos hst, List.getElem?_eq_getElem hp]
      cases f[p + 1]? with
      | none => rfl
      | some y => simp [h50]
     have HZ := Lib.hid (HX.out hsa wr.drew.drew HB.out.drew.drew)
     have g50 : (((f[p]).1 : Int) == 50) = false := by rw [beq_eq_false_iff_ne]; omega
     clear hsa HX HY hcm h50 hst
     rcases hx with rfl | rfl
     all_goals
      go_upto_region 5 with (fail)
      go_still_tail 26, (by kernel_rfl)
      go_wp2_with fail
      go_still_tail 11, (by kernel_rfl)
      go_wp2_with fail
      exact ⟨HZ.out, by simp only [intOf]; omega⟩
    by_cases hnx : p + 1 < f.length
    case neg =>
     have hsa : standsAt f p (xs, xk) = false := by
      unfold standsAt
      rw [if_pos hst, List.getElem?_eq_getElem hp, List.getElem?_eq_none (by omega)]
     have HZ := Lib.hid (HX.out hsa wr.drew.drew HB.out.drew.drew)
     have g50 : (((f[p]).1 : Int) == 50) = true := by rw [beq_iff_eq]; omega
     have hw1 : IntKind.i64.wrap ((p : Int) + 1) = (p : Int) + 1 := by rw [IntKind.wrap_i64]; omega
     have g51 : ¬ (p : Int) + 1 < f.length := by omega
     clear hsa HX HY hcm h50 hst
     rcases hx with rfl | rfl
     all_goals
      go_upto_region 5 with (fail)
      go_still_tail 26, (by kernel_rfl)
      go_wp2_with fail
      go_still_tail 11, (by kernel_rfl)
      go_wp2_with fail
      exact ⟨HZ.out, by simp only [intOf]; omega⟩
    obtain ⟨n0, n1, n2⟩ := hcm (p + 1) hnx
    have hsa : standsAt f p (xs, xk) = ((f[p + 1]).1 == 26 && decide ((f[p + 1]).2.2 = xs)) := by
     unfold standsAt
     rw [if_pos hst, List.getElem?_eq_getElem hp, List.getElem?_eq_getElem hnx]
     simp [h50]
    rw [hsa] at HX HY
    have g50 : (((f[p]).1 : Int) == 50) = true := by rw [beq_iff_eq]; omega
    have hw1 : IntKind.i64.wrap ((p : Int) + 1) = (p : Int) + 1 := by rw [IntKind.wrap_i64]; omega
    have g51 : (p : Int) + 1 < f.length := by omega
    have hq0 : (0 : Int) ≤ (p : Int) + 1 := by omega
    have hqc : (p : Int) + 1 < cf := by omega
    have CP := Lib.hid (fun W => ref_Place f[p + 1] xs xk W)
    clear hsa hcm h50 hst
    generalize f[p + 1] = q at *
    obtain ⟨q1, q2, q3⟩ := q
    simp only [] at n0 n1 n2 CP HX HY
    rcases hx with rfl | rfl
    all_goals
     go_upto_region 5 with (fail)
     go_still_tail 26, (by kernel_rfl)
     go_wp2_with fail
     refine (CP.out _).mono ?_
     rintro e w3 ⟨rfl, hb3⟩
     have HB3 := Lib.hid (bthen HB.out.drew hb3)
     clear hb3 CP c0 c1 d0 d1 d2 n0 n1 n2
     cases hz : (q1 == 26 && decide (q3 = xs)) with
     | true =>
      have HZ := Lib.hid (HQ.out (k : Int) w3 (HY.out hz) HB3.out)
      clear hz HX HY
      go_wp2_with fail
      exact HZ.out
     | false =>
      have HZ := Lib.hid (HX.out hz w3.drew HB3.out.drew)
      clear hz HX HY
      go_upto_region 7 with (fail)
      go_still_tail 11, (by kernel_rfl)
      go_wp2_with fail
      exact ⟨HZ.out, by simp only [intOf]; omega⟩
   have hsa : standsAt f p (xs, xk) = ((f[p]).1 == 26 && decide ((f[p]).2.2 = xs)) := by
    unfold standsAt
    rw [if_neg hst, List.getElem?_eq_getElem hp]
   rw [hsa] at HX HY
   have g5 : ((xk : Int) == 5) = false := by rw [beq_eq_false_iff_ne]; intro e; apply hst; unfold isStmt; simp; omega
   have g7 : ((xk : Int) == 7) = false := by rw [beq_eq_false_iff_ne]; intro e; apply hst; unfold isStmt; simp; omega
   have CP := Lib.hid (fun W => ref_Place f[p] xs xk W)
   clear hst hsa hcm
   generalize f[p] = q at *
   obtain ⟨q1, q2, q3⟩ := q
   simp only [] at d0 d1 d2 CP HX HY
   go_upto_region 5 with (fail)
   go_still_tail 26, (by kernel_rfl)
   go_wp2_with fail
   have c0' : wr.drew.cell? ⟨b, off + k * 2, none⟩ = some (.string xs) := c0
   have c1' : wr.drew.cell? ⟨b, off + k * 2 + 1, none⟩ = some (.int .u8 (xk : Int)) := c1
   have d0' : wr.drew.cell? ⟨fb, fo + p * 3, none⟩ = some (.int .u8 (q1 : Int)) := d0
   have d1' : wr.drew.cell? ⟨fb, fo + p * 3 + 1, none⟩ = some (.int .i64 q2) := d1
   have d2' : wr.drew.cell? ⟨fb, fo + p * 3 + 2, none⟩ = some (.string q3) := d2
   have HBD := Lib.hid HB.out.drew
   clear c0 c1 d0 d1 d2
   generalize wr.drew = wd at *
   have HBE := Lib.hid HBD.out.drew
   go_still_tail 11, (by kernel_rfl)
   go_wp2_with fail
   refine (CP.out _).mono ?_
   rintro e w3 ⟨rfl, hb3⟩
   have HB3 := Lib.hid (bthen HBE.out hb3)
   clear hb3 CP c0' c1' d0' d1' d2'
   cases hz : (q1 == 26 && decide (q3 = xs)) with
   | true =>
    have HZ := Lib.hid (HQ.out (k : Int) w3 (HY.out hz) HB3.out)
    clear hz HX HY
    go_wp2_with fail
    exact HZ.out
   | false =>
    have HZ := Lib.hid (HX.out hz w3 HB3.out)
    clear hz HX HY
    go_wp2_with fail
    exact ⟨HZ.out, by simp only [intOf]; omega⟩
  ·obtain rfl : k = hs.length := by omega
   have HX := Lib.hid (HQ.out (-1) wr (hole_none HNO.out) HB.out)
   go_wp2_with fail
   exact HX.out
end Go.Proofs.YtlkheofphafofaaGreatDoor
