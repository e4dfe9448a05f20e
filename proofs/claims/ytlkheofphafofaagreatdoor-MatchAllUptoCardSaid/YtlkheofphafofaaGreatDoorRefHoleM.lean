/- Layer 17, the reference: Hole, walked. -/
import Derived.Test.YtlkheofphafofaaGreatDoorUpsPM
import Derived.Test.YtlkheofphafofaaGreatDoorStillM
import Derived.Test.YtlkheofphafofaaGreatDoorCheckBM
import Derived.Test.YtlkheofphafofaaGreatDoorTermSameM
namespace Go.Proofs.YtlkheofphafofaaGreatDoor
set_option linter.all false
attribute [local irreducible] Calls
attribute [local irreducible] wpStill
open Go.RowKit

def holeI (o : Option Nat) : Int := match o with
 | some h => (h : Int)
 | none => -1
def hoRel (f : List Prt) (hs : List Hl) (p : Nat) (w : World) (hv : Value) (wr : World) : Prop := ∃ k : Nat, hv = .int .i64 (k : Int) ∧ k ≤ hs.length ∧ (∀ j (hj : j < hs.length), j < k → standsAt f p hs[j] = false) ∧ Below w.heap.size w wr
theorem hole_here {f : List Prt} {hs : List Hl} {p k : Nat} (hk : k < hs.length) (hn : ∀ j (hj : j < hs.length), j < k → standsAt f p hs[j] = false) (h : standsAt f p hs[k] = true) : holeI (holeOf f hs p) = (k : Int) := by
 unfold holeOf
 rw [List.findIdx?_eq_some_iff_getElem.2 ⟨hk, h, fun j hj => by rw [hn j (by omega) hj]; decide⟩]
 rfl
theorem hole_none {f : List Prt} {hs : List Hl} {p : Nat} (hn : ∀ j (hj : j < hs.length), j < hs.length → standsAt f p hs[j] = false) : holeI (holeOf f hs p) = -1 := by
 unfold holeOf
 rw [List.findIdx?_eq_none_iff.2 (fun x hx => by obtain ⟨j, hj, rfl⟩ := List.mem_iff_getElem.1 hx; exact hn j hj hj)]
 rfl
set_option maxRecDepth 100000 in
set_option maxHeartbeats 8000000 in
theorem ref_Hole (f : List Prt) (hs : List Hl) (hf : f.length ≤ 1048576) (hh : hs.length ≤ 1048576) (p : Nat) (hp : p < f.length) (vf vh : Value) (w : World) (hrf : PartRow w vf f) (hrh : HoleRow w vh hs) :
  Calls Tryz.prog 49 #[vf, vh, .int .i64 (p : Int)] w fun e w' => e = .returned (.int .i64 (holeI (holeOf f hs p))) ∧ Below w.heap.size w w' := by
 have HQ : RowKit.Hid (∀ x w', holeI (holeOf f hs p) = x → Below w.heap.size w w' → (fun (e : Ending) w' => e = .returned (.int .i64 (holeI (holeOf f hs p))) ∧ Below w.heap.size w w') (.returned (.int .i64 x)) w') := Lib.hid fun x w' h hb => ⟨by rw [h], hb⟩
 generalize (fun (e : Ending) w' => e = .returned (.int .i64 (holeI (holeOf f hs p))) ∧ Below w.heap.size w w') = Q at *
 obtain ⟨af, cf, rfl, hcf⟩ := hrf.slice
 obtain ⟨ah, ch, rfl, hch⟩ := Row.shape hrh
 have HF := Lib.hid hrf
 have HH := Lib.hid hrh
 clear hrf hrh
 go_enter Tryz.func49, Tryz.ntmps49
 go_wp2_with fail
 go_loopw [7] (fun hv wr => hoRel f hs p w hv wr) (fun hv _ => hs.length - (intOf hv).toNat)
 case atStart => exact ⟨0, rfl, Nat.zero_le _, fun j hj h => absurd h (by omega), Below.refl _ _⟩
 case round =>
  obtain ⟨k, rfl, hk, hno, hb⟩ := hrel
  have HB := Lib.hid hb
  have HNO := Lib.hid hno
  clear hb hno
  by_cases hlt : k < hs.length
  ·obtain ⟨b, off, rfl, _, _, _, hcm⟩ := HH.out.at HB.out (show 0 < hs.length by omega)
   obtain ⟨c0, c1⟩ := hcm k hlt
   have hk0 : (0 : Int) ≤ (k : Int) := by omega
   have hkl : (k : Int) < hs.length := by omega
   have hkc : (k : Int) < ch := by omega
   have HX : RowKit.Hid (standsAt f p hs[k] = false → ∀ W, Below w.heap.size w W → hoRel f hs p w (.int .i64 ((k : Int) + 1)) W) := Lib.hid fun h W hb => ⟨k + 1, by push_cast; rfl, hlt, fun j hj hjk => by
    by_cases e : j = k
    ·subst e; exact h
    ·exact HNO.out j hj (by omega), hb⟩
   have HY : RowKit.Hid (standsAt f p hs[k] = true → holeI (holeOf f hs p) = (k : Int)) := Lib.hid fun h => hole_here hlt HNO.out h
   clear hcm
   generalize hs[k] = x at *
   obtain ⟨xs, xk⟩ := x
   simp only [] at c0 c1
   obtain ⟨fb, fo, rfl, _, _, _, hcm⟩ := HF.out.at HB.out (show 0 < f.length by omega)
   obtain ⟨d0, d1, d2⟩ := hcm p hp
   have hp0 : (0 : Int) ≤ (p : Int) := by omega
   have hpl : (p : Int) < f.length := by omega
   have hpc : (p : Int) < cf := by omega
   by_cases hst : isStmt xk = true
   ·have hx : xk = 5 ∨ xk = 7 := by unfold isStmt at hst; simp at hst; exact hst
    by_cases h50 : (f[p]).1 = 50
    case neg =>
     have hsa : standsAt f p (xs, xk) = false := by
      unfold standsAt
      rw [if_pos hst, List.getElem?_eq_getElem hp]
      cases f[p + 1]? with
      | none => rfl
      | some y => simp [h50]
     have HZ := Lib.hid (HX.out hsa wr.drew.drew HB.out.drew.drew)
     have g50 : (((f[p]).1 : Int) == 50) = false := by rw [beq_eq_false_iff_ne]; omega
     clear hsa HX HY hcm h50 hst
     rcases hx with rfl | rfl
     all_goals
      go_upto_region 5 with (fail)
      go_still_tail 26, (by kernel_rfl)
      go_wp2_with fail
      go_still_tail 11, (by kernel_rfl)
      go_wp2_with fail
      exact ⟨HZ.out, by simp only [intOf]; omega⟩
    by_cases hnx : p + 1 < f.length
    case neg =>
     have hsa : standsAt f p (xs, xk) = false := by
      unfold standsAt
      rw [if_pos hst, List.getElem?_eq_getElem hp, List.getElem?_eq_none (by omega)]
     have HZ := Lib.hid (HX.out hsa wr.drew.drew HB.out.drew.drew)
     have g50 : (((f[p]).1 : Int) == 50) = true := by rw [beq_iff_eq]; omega
     have hw1 : IntKind.i64.wrap ((p : Int) + 1) = (p : Int) + 1 := by rw [IntKind.wrap_i64]; omega
     have g51 : ¬ (p : Int) + 1 < f.length := by omega
     clear hsa HX HY hcm h50 hst
     rcases hx with rfl | rfl
     all_goals
      go_upto_region 5 with (fail)
      go_still_tail 26, (by kernel_rfl)
      go_wp2_with fail
      go_still_tail 11, (by kernel_rfl)
      go_wp2_with fail
      exact ⟨HZ.out, by simp only [intOf]; omega⟩
    obtain ⟨n0, n1, n2⟩ := hcm (p + 1) hnx
    have hsa : standsAt f p (xs, xk) = ((f[p + 1]).1 == 26 && decide ((f[p + 1]).2.2 = xs)) := by
     unfold standsAt
     rw [if_pos hst, List.getElem?_eq_getElem hp, List.getElem?_eq_getElem hnx]
     simp [h50]
    rw [hsa] at HX HY
    have g50 : (((f[p]).1 : Int) == 50) = true := by rw [beq_iff_eq]; omega
    have hw1 : IntKind.i64.wrap ((p : Int) + 1) = (p : Int) + 1 := by rw [IntKind.wrap_i64]; omega
    have g51 : (p : Int) + 1 < f.length := by omega
    have hq0 : (0 : Int) ≤ (p : Int) + 1 := by omega
    have hqc : (p : Int) + 1 < cf := by omega
    have CP := Lib.hid (fun W => ref_Place f[p + 1] xs xk W)
    clear hsa hcm h50 hst
    generalize f[p + 1] = q at *
    obtain ⟨q1, q2, q3⟩ := q
    simp only [] at n0 n1 n2 CP HX HY
    rcases hx with rfl | rfl
    all_goals
     go_upto_region 5 with (fail)
     go_still_tail 26, (by kernel_rfl)
     go_wp2_with fail
     refine (CP.out _).mono ?_
     rintro e w3 ⟨rfl, hb3⟩
     have HB3 := Lib.hid (bthen HB.out.drew hb3)
     clear hb3 CP c0 c1 d0 d1 d2 n0 n1 n2
     cases hz : (q1 == 26 && decide (q3 = xs)) with
     | true =>
      have HZ := Lib.hid (HQ.out (k : Int) w3 (HY.out hz) HB3.out)
      clear hz HX HY
      go_wp2_with fail
      exact HZ.out
     | false =>
      have HZ := Lib.hid (HX.out hz w3.drew HB3.out.drew)
      clear hz HX HY
      go_upto_region 7 with (fail)
      go_still_tail 11, (by kernel_rfl)
      go_wp2_with fail
      exact ⟨HZ.out, by simp only [intOf]; omega⟩
   have hsa : standsAt f p (xs, xk) = ((f[p]).1 == 26 && decide ((f[p]).2.2 = xs)) := by
    unfold standsAt
    rw [if_neg hst, List.getElem?_eq_getElem hp]
   rw [hsa] at HX HY
   have g5 : ((xk : Int) == 5) = false := by rw [beq_eq_false_iff_ne]; intro e; apply hst; unfold isStmt; simp; omega
   have g7 : ((xk : Int) == 7) = false := by rw [beq_eq_false_iff_ne]; intro e; apply hst; unfold isStmt; simp; omega
   have CP := Lib.hid (fun W => ref_Place f[p] xs xk W)
   clear hst hsa hcm
   generalize f[p] = q at *
   obtain ⟨q1, q2, q3⟩ := q
   simp only [] at d0 d1 d2 CP HX HY
   go_upto_region 5 with (fail)
   go_still_tail 26, (by kernel_rfl)
   go_wp2_with fail
   have c0' : wr.drew.cell? ⟨b, off + k * 2, none⟩ = some (.string xs) := c0
   have c1' : wr.drew.cell? ⟨b, off + k * 2 + 1, none⟩ = some (.int .u8 (xk : Int)) := c1
   have d0' : wr.drew.cell? ⟨fb, fo + p * 3, none⟩ = some (.int .u8 (q1 : Int)) := d0
   have d1' : wr.drew.cell? ⟨fb, fo + p * 3 + 1, none⟩ = some (.int .i64 q2) := d1
   have d2' : wr.drew.cell? ⟨fb, fo + p * 3 + 2, none⟩ = some (.string q3) := d2
   have HBD := Lib.hid HB.out.drew
   clear c0 c1 d0 d1 d2
   generalize wr.drew = wd at *
   have HBE := Lib.hid HBD.out.drew
   go_still_tail 11, (by kernel_rfl)
   go_wp2_with fail
   refine (CP.out _).mono ?_
   rintro e w3 ⟨rfl, hb3⟩
   have HB3 := Lib.hid (bthen HBE.out hb3)
   clear hb3 CP c0' c1' d0' d1' d2'
   cases hz : (q1 == 26 && decide (q3 = xs)) with
   | true =>
    have HZ := Lib.hid (HQ.out (k : Int) w3 (HY.out hz) HB3.out)
    clear hz HX HY
    go_wp2_with fail
    exact HZ.out
   | false =>
    have HZ := Lib.hid (HX.out hz w3 HB3.out)
    clear hz HX HY
    go_wp2_with fail
    exact ⟨HZ.out, by simp only [intOf]; omega⟩
  ·obtain rfl : k = hs.length := by omega
   have HX := Lib.hid (HQ.out (-1) wr (hole_none HNO.out) HB.out)
   go_wp2_with fail
   exact HX.out
end Go.Proofs.YtlkheofphafofaaGreatDoor
namespace Go.Proofs.YtlkheofphafofaaGreatDoor
set_option linter.all false
open Go.RowKit

def e2Rel (l : List Prt) (w : World) (iv : Value) (wr : World) : Prop :=
 ∃ (k : Nat) (E : List Int), iv = .int .i64 ((k : Int) - 1) ∧ k ≤ l.length ∧ E.length = l.length ∧ (∀ j, k ≤ j → j < l.length → E.getD j 0 = (endB l j : Int)) ∧
  wr.heap[w.heap.size]? = some (.cells (E.map (Value.int .i64)).toArray 3 (0, 0)) ∧ Below w.heap.size w wr
def e2In (l : List Prt) (w : World) (E : List Int) (i q : Nat) (cv : Value) (wr : World) : Prop :=
 ∃ c : Nat, cv = .int .i64 (c : Int) ∧ c ≤ q ∧ wr.heap[w.heap.size]? = some (.cells ((E.set i (kidAt l c (i + 1) : Int)).map (Value.int .i64)).toArray 3 (0, 0)) ∧ Below w.heap.size w wr
@[irreducible] def ends2Post (l : List Prt) (w0 : World) (e : Ending) (w' : World) : Prop :=
 ∃ v, e = .returned v ∧ Below w0.heap.size w0 w' ∧ w'.ownsRow w0.heap.size 3 1 v l.length ((endsL l).map (Value.int .i64))
theorem owns_block {w : World} {B g : Nat} {n : Nat} {E : List Int} (h : w.heap[g]? = some (.cells (E.map (Value.int .i64)).toArray 3 (0, 0))) (hB : B ≤ g) (hn : E.length = n) (hm : n ≤ 1000000000) : w.ownsRow B 3 1 (.slice (some ⟨g, 0, none⟩) n n) n (E.map (Value.int .i64)) :=
 ⟨by simp [hn], Or.inr ⟨g, n, _, rfl, hB, h, Nat.le_refl _, by unfold maxLen; omega, by simp [hn], by simp; rw [List.take_of_length_le (by simp [hn])]⟩⟩
set_option maxRecDepth 100000 in
set_option maxHeartbeats 8000000 in
theorem match_ends (l : List Prt) (hl : l.length ≤ 1000000000) (us : List Nat) (hus : rowsB l = some us) (v : Value) (w : World) (hr : PartRow w v l) :
  Calls Tryz.prog 37 #[v] w (ends2Post l w) := by
 have HQ : RowKit.Hid (∀ v' w', Below w.heap.size w w' → w'.ownsRow w.heap.size 3 1 v' l.length ((endsL l).map (Value.int .i64)) → ends2Post l w (.returned v') w') := Lib.hid fun v' w' h1 h2 => by
  unfold ends2Post; exact ⟨v', rfl, h1, h2⟩
 generalize ends2Post l w = Q at *
 have HR := Lib.hid hr
 have HU := Lib.hid hus
 obtain ⟨va, vcap, rfl, hvc⟩ := hr.slice
 clear hr hus
 have hmk := Tmake_ints l.length hl
 have hwl : IntKind.i64.wrap ((l.length : Int) - 1) = (l.length : Int) - 1 := by rw [IntKind.wrap_i64]; omega
 go_enter Tryz.func37, Tryz.ntmps37
 go_wp2_with fail
 have HK0 : RowKit.Hid ((w.alloc (.cells (Array.replicate l.length (Value.int .i64 0)) 3)).heap[w.heap.size]? = some (.cells ((List.replicate l.length (0 : Int)).map (Value.int .i64)).toArray 3 (0, 0))) := Lib.hid (by
  have := heap_alloc_new w (.cells (Array.replicate l.length (Value.int .i64 0)) 3)
  rw [this, List.map_replicate, List.toArray_replicate])
 have HB0 : RowKit.Hid (Below w.heap.size w (w.alloc (.cells (Array.replicate l.length (Value.int .i64 0)) 3))) := Lib.hid ((Below.refl _ _).alloc (Nat.le_refl _) _)
 generalize w.alloc (.cells (Array.replicate l.length (Value.int .i64 0)) 3) = W0 at *
 generalize hBB : w.heap.size = B at *
 have HBB := Lib.hid hBB
 clear hBB
 go_loopw [4] (fun j wr => e2Rel l w j wr) (fun j _ => (intOf j + 1).toNat)
 case atStart =>
  refine ⟨l.length, List.replicate l.length 0, rfl, Nat.le_refl _, by simp, fun i h1 h2 => by omega, ?_, ?_⟩
  ·rw [HBB.out]; exact HK0.out
  ·rw [HBB.out]; exact HB0.out
 case round =>
  obtain ⟨k, E, rfl, hk, hEl, hEq, hh, hb⟩ := hrel
  rw [HBB.out] at hh hb
  have HB := Lib.hid hb
  have HH := Lib.hid hh
  have HEQ := Lib.hid hEq
  have HEL := Lib.hid hEl
  have hBlt : B < wr.heap.size := lt_of_block hh
  clear hb hh hEq hEl
  by_cases hk0 : 0 < k
  ·obtain ⟨i, rfl⟩ : ∃ i, k = i + 1 := ⟨k - 1, by omega⟩
   rw [show (((i + 1 : Nat) : Int) - 1) = (i : Int) by omega]
   have hil : i < l.length := hk
   obtain ⟨b, off, rfl, _, _, hbl, hcell⟩ := HR.out.at (HBB.out ▸ HB.out) (show 0 < l.length by omega)
   obtain ⟨q, hq1, hq2, hq4, hq3⟩ := kids_go HU.out hil
   have c0 : wr.cell? ⟨b, off + i * 3 + 1, none⟩ = some (.int .i64 (q : Int)) := by rw [(hcell i hil).2.1, hq1]
   have HKI := Lib.hid hq3
   have HKE := Lib.hid hq2
   have hi0 : (0 : Int) ≤ i := by omega
   have hil' : (i : Int) < l.length := by omega
   have hic : (i : Int) < vcap := by omega
   have hwi : IntKind.i64.wrap ((i : Int) + 1) = (i : Int) + 1 := by rw [IntKind.wrap_i64]; omega
   have hwm : IntKind.i64.wrap ((i : Int) - 1) = (i : Int) - 1 := by rw [IntKind.wrap_i64]; omega
   have c1 : wr.cell? ⟨B, i, none⟩ = some (.int .i64 (E.getD i 0)) := by
    simp [World.cell?, HH.out, HEL.out, hil, List.getD_eq_getElem?_getD]
   have z1 : wr.frozen? ⟨B, i, none⟩ = false := by simp [World.frozen?, HH.out]
   have hbB : b ≠ B := by have := HBB.out; omega
   have c0' : (wr.setCell ⟨B, i, none⟩ (.int .i64 ((i : Int) + 1))).cell? ⟨b, off + i * 3 + 1, none⟩ = some (.int .i64 (q : Int)) := by
    rw [Tcell_setCell_ne (by exact hbB)]; exact c0
   have HAT : RowKit.Hid (e2In l w E i q (.int .i64 0) (wr.setCell ⟨B, i, none⟩ (.int .i64 ((i : Int) + 1)))) := Lib.hid ⟨0, rfl, Nat.zero_le _, by
    rw [HBB.out, heap_setCell_same _ _ _ _ _ _ HH.out, List.setIfInBounds_toArray, ← List.map_set]; rfl, by
    rw [HBB.out]; exact HB.out.setCell (p := ⟨B, i, none⟩) (Nat.le_refl _) _⟩
   clear hcell hq1 hq2 hq3 hk0 c0 hbB
   go_wp2_with fail
   clear c1 z1 c0'
   go_loopw [25] (fun cv wx => e2In l w E i q cv wx) (fun cv _ => q - (intOf cv).toNat)
   case atStart => exact HAT.out
   case round =>
    obtain ⟨c, rfl, hcq, hh2, hb2⟩ := hrel
    rw [HBB.out] at hh2 hb2
    have HH2 := Lib.hid hh2
    have HB2 := Lib.hid hb2
    clear hh2 hb2 HAT
    by_cases hlt : c < q
    ·obtain ⟨x1, x2⟩ := HKI.out c hlt
     have HXS := Lib.hid (kidAt_snoc l c (i + 1))
     generalize kidAt l c (i + 1) = x at *
     have d1 : wr.cell? ⟨B, i, none⟩ = some (.int .i64 (x : Int)) := by
      simp [World.cell?, HH2.out, HEL.out, hil]
     have d2 : wr.cell? ⟨B, x, none⟩ = some (.int .i64 (endB l x : Int)) := by
      have := HEQ.out x (by omega) x2
      rw [List.getD_eq_getElem?_getD] at this
      simp only [World.cell?, HH2.out]
      rw [← this]
      simp [HEL.out, x2, show ¬ i = x by omega]
     have d3 : wr.frozen? ⟨B, i, none⟩ = false := by simp [World.frozen?, HH2.out]
     have HN1 : RowKit.Hid ((wr.setCell ⟨B, i, none⟩ (.int .i64 (endB l x : Int))).heap[w.heap.size]? = some (.cells ((E.set i (kidAt l (c + 1) (i + 1) : Int)).map (Value.int .i64)).toArray 3 (0, 0))) := Lib.hid (by
      rw [HBB.out, HXS.out, heap_setCell_same _ _ _ _ _ _ HH2.out, List.setIfInBounds_toArray, ← List.map_set, List.set_set])
     have HN2 : RowKit.Hid (Below w.heap.size w (wr.setCell ⟨B, i, none⟩ (.int .i64 (endB l x : Int)))) := Lib.hid (by
      rw [HBB.out]; exact HB2.out.setCell (p := ⟨B, i, none⟩) (Nat.le_refl _) _)
     have hx0 : (0 : Int) ≤ (x : Int) := by omega
     have hxl : (x : Int) < l.length := by omega
     have hci : (c : Int) < q := by omega
     have hwc : IntKind.i64.wrap ((c : Int) + 1) = (c : Int) + 1 := by rw [IntKind.wrap_i64]; omega
     generalize endB l x = y at *
     clear HXS
     go_wp2_with fail
     refine ⟨⟨c + 1, by go_num, by omega, HN1.out, HN2.out⟩, by simp [intOf]; omega⟩
    ·obtain rfl : c = q := by omega
     have hci : ¬ (c : Int) < (c : Int) := by omega
     have HN : RowKit.Hid (e2Rel l w (.int .i64 ((i : Int) - 1)) wr) := Lib.hid ⟨i, E.set i (endB l i : Int), rfl, by omega, by rw [List.length_set]; exact HEL.out, fun j h1 h2 => by
      rw [List.getD_eq_getElem?_getD, List.getElem?_set]
      by_cases e : i = j
      ·subst e; (rw [if_pos rfl, if_pos (by rw [HEL.out]; exact hil)]; try rfl)
      ·rw [if_neg e, ← List.getD_eq_getElem?_getD]; exact HEQ.out j (by omega) h2, by rw [HBB.out, ← HKE.out]; exact HH2.out, by rw [HBB.out]; exact HB2.out⟩
     go_wp2_with fail
     refine ⟨HN.out, by simp [intOf]; try omega⟩
  ·obtain rfl : k = 0 := by omega
   rw [show (((0 : Nat) : Int) - 1) = -1 by rfl]
   have hEE : E = endsL l := by
    apply List.ext_getElem (by rw [HEL.out, endsL_length])
    intro j h1 h2
    have h3 := HEQ.out j (by omega) (by have := HEL.out; omega)
    have h4 := endsL_get (l := l) (j := j) (by have := HEL.out; omega)
    rw [List.getD_eq_getElem?_getD, List.getElem?_eq_getElem h1] at h3
    rw [List.getElem?_eq_getElem h2] at h4
    simp only [Option.getD_some] at h3
    rw [h3]; exact (Option.some.inj h4).symm
   subst hEE
   have HX := Lib.hid (HQ.out (.slice (some ⟨B, 0, none⟩) l.length l.length) wr HB.out (owns_block HH.out (Nat.le_refl _) (endsL_length l) hl))
   go_wp2_with fail
   exact HX.out
end Go.Proofs.YtlkheofphafofaaGreatDoor
namespace Go.Proofs.YtlkheofphafofaaGreatDoor
set_option linter.all false
attribute [local irreducible] Calls
attribute [local irreducible] wpStill
open Go.RowKit

def kindV (l : List Prt) (u : Int) : Int := match kindI l u with
 | some k => (k : Int)
 | none => 255
theorem kind_isV (l : List Prt) (u : Int) (n : Nat) (hn : n ≠ 255) : (kindI l u == some n) = (kindV l u == (n : Int)) := by
 unfold kindV
 cases kindI l u with
 | none => simp; omega
 | some k => rw [Bool.eq_iff_iff]; simp; omega
set_option maxRecDepth 100000 in
set_option maxHeartbeats 8000000 in
theorem ref_kind16 (l : List Prt) (hl : l.length ≤ 1000000000) (v : Value) (u : Int) (h2 : u < l.length) (w : World) (hr : PartRow w v l) :
  Calls Tryz.prog 80 #[v, .int .i64 u] w fun e w' => e = .returned (.int .u8 (kindV l u)) ∧ w = w' := by
 have HQ : RowKit.Hid (∀ x, kindV l u = x → (fun (e : Ending) w' => e = .returned (.int .u8 (kindV l u)) ∧ w = w') (.returned (.int .u8 x)) w) := Lib.hid fun x h => ⟨by rw [h], rfl⟩
 generalize (fun (e : Ending) w' => e = .returned (.int .u8 (kindV l u)) ∧ w = w') = Q at *
 obtain ⟨va, vcap, rfl, hvc⟩ := hr.slice
 by_cases hu : u < 0
 ·have HX := Lib.hid (HQ.out 255 (by unfold kindV kindI; rw [if_pos hu]))
  go_enter Tryz.func80, Tryz.ntmps80
  go_wp2_with fail
  exact HX.out
 ·obtain ⟨k, rfl⟩ : ∃ k : Nat, u = (k : Int) := ⟨u.toNat, by omega⟩
  have hk : k < l.length := by omega
  obtain ⟨b, off, rfl, _, _, hbl, hcell⟩ := hr.at (Below.refl _ _) (show 0 < l.length by omega)
  have c0 := (hcell k hk).1
  have hk0 : (0 : Int) ≤ (k : Int) := by omega
  have hkl : (k : Int) < l.length := by omega
  have hneg : ¬ (k : Int) < 0 := by omega
  have HX := Lib.hid (HQ.out ((l[k]).1 : Int) (by unfold kindV kindI; rw [if_neg hneg, Int.toNat_natCast, List.getElem?_eq_getElem hk]; rfl))
  clear hcell hr HQ
  generalize (l[k]).1 = x at *
  go_enter Tryz.func80, Tryz.ntmps80
  go_wp2_with fail
  exact HX.out
def topN (l : List Prt) (i : Nat) : Int := if upN l i < 0 then -1 else upN l (upN l i).toNat
theorem kindV_neg (l : List Prt) {u : Int} (h : u < 0) : kindV l u = 255 := by unfold kindV kindI; rw [if_pos h]
theorem placeOK_ref (l : List Prt) (k i : Nat) : placeOK l k i = if k = 5 then kindV l (upN l i) == 50 else if k = 7 then (kindV l (upN l i) == 50 && kindV l (topN l i) == 13) else if k = 6 then (kindV l (upN l i) == 11 || kindV l (upN l i) == 12) else true := by
 unfold placeOK
 rw [kind_isV _ _ 50 (by omega), kind_isV _ _ 13 (by omega), kind_isV _ _ 11 (by omega), kind_isV _ _ 12 (by omega)]
 unfold topN
 by_cases h : upN l i < 0
 ·rw [if_pos h, kindV_neg l h]
  split
  ·rfl
  ·split
   ·have e : ((255 : Int) == ((50 : Nat) : Int)) = false := rfl
    have e2 : ((255 : Int) == (50 : Int)) = false := rfl
    rw [e, e2]; rfl
   ·rfl
 ·rw [if_neg h]; rfl
def rpRel (l : List Prt) (h : Hl) (w0 : World) (nv iv : Value) (wr : World) : Prop :=
 ∃ k n : Nat, iv = .int .i64 (k : Int) ∧ nv = .int .i64 (n : Int) ∧ k ≤ l.length ∧ n ≤ k ∧ placesF l h (l.length - k) k (n : Int) = placesZ l h ∧ Below w0.heap.size w0 wr
set_option maxRecDepth 100000 in
set_option maxHeartbeats 16000000 in
theorem ref_places (l : List Prt) (hl : l.length ≤ 1000000000) (us : List Nat) (hus : rowsB l = some us) (v : Value) (h : Hl) (w : World) (hr : PartRow w v l) :
  Calls Tryz.prog 48 #[v, .agg #[.string h.1, .int .u8 (h.2 : Int)]] w fun e w' => e = .returned (.int .i64 (placesZ l h)) ∧ Below w.heap.size w w' := by
 obtain ⟨hnm, hkd⟩ := h
 simp only []
 have HQ : RowKit.Hid (∀ z w', placesZ l (hnm, hkd) = z → Below w.heap.size w w' → (fun (e : Ending) w' => e = .returned (.int .i64 (placesZ l (hnm, hkd))) ∧ Below w.heap.size w w') (.returned (.int .i64 z)) w') := Lib.hid fun z w' hz hb => ⟨by rw [hz], hb⟩
 generalize (fun (e : Ending) w' => e = .returned (.int .i64 (placesZ l (hnm, hkd))) ∧ Below w.heap.size w w') = Q at *
 have hbx : Below w.heap.size w (w.alloc (.cells #[.string hnm, .int .u8 (hkd : Int)] 43)) := (Below.refl _ _).alloc (Nat.le_refl _) _
 have HBX := Lib.hid hbx
 have HX0 : RowKit.Hid ((w.alloc (.cells #[.string hnm, .int .u8 (hkd : Int)] 43)).heap[w.heap.size]? = some (.cells #[.string hnm, .int .u8 (hkd : Int)] 43 (0, 0))) := Lib.hid (heap_alloc_new _ _)
 have HR := Lib.hid hr
 have CUP := Lib.hid (fun (i : Nat) (hi : i < l.length) W (hb : Below w.heap.size w W) => ref_Up11 l hl us hus v i hi W (hr.below hb))
 have CKD := Lib.hid (fun (u : Int) (hu : u < l.length) W (hb : Below w.heap.size w W) => ref_kind16 l hl v u hu W (hr.below hb))
 obtain ⟨va, vcap, rfl, hvc⟩ := hr.slice
 clear hr hbx
 go_enter Tryz.func48, Tryz.ntmps48
 go_upto_region 2 with (fail)
 generalize w.alloc (.cells #[.string hnm, .int .u8 (hkd : Int)] 43) = w1 at *
 go_wp2_with fail
 go_loopw [5, 6] (fun nv iv wr => rpRel l (hnm, hkd) w1 nv iv wr) (fun _ iv _ => l.length - (intOf iv).toNat)
 case atStart => exact ⟨0, 0, rfl, rfl, Nat.zero_le _, Nat.le_refl _, rfl, Below.refl _ _⟩
 case round =>
  obtain ⟨k, n, rfl, rfl, hk, hnk, hpf, hb⟩ := hrel
  have HB := Lib.hid hb
  have HPF := Lib.hid hpf
  clear hb hpf
  have HBW : RowKit.Hid (Below w.heap.size w wr) := Lib.hid (HBX.out.trans (HB.out.mono HBX.out.size))
  by_cases hlt : k < l.length
  ·obtain ⟨b, off, rfl, _, _, hbl, hcell⟩ := HR.out.at (HBW.out) (show 0 < l.length by omega)
   obtain ⟨d0, d1, d2⟩ := hcell k hlt
   have hs := HPF.out
   rw [show l.length - k = (l.length - (k + 1)) + 1 by omega, placesF, List.getElem?_eq_getElem hlt] at hs
   have HS := Lib.hid hs
   have CP := Lib.hid (fun W => ref_Place l[k] hnm hkd W)
   have HPR := Lib.hid (show isPlace l[k] (hnm, hkd) = ((l[k]).1 == 26 && decide ((l[k]).2.2 = hnm)) from rfl)
   generalize hp : l[k] = p at *
   obtain ⟨a, c, s⟩ := p
   simp only [] at d0 d1 d2 CP HS HPR
   have hx1 := keeps HB.out HX0.out
   have g0 : wr.cell? ⟨w.heap.size, 0, none⟩ = some (.string hnm) := by simp [World.cell?, hx1]
   have g1 : wr.cell? ⟨w.heap.size, 1, none⟩ = some (.int .u8 (hkd : Int)) := by simp [World.cell?, hx1]
   have hk0 : (0 : Int) ≤ (k : Int) := by omega
   have hkl : (k : Int) < l.length := by omega
   have hkc : (k : Int) < vcap := by omega
   clear hcell hs hx1 hp
   go_upto_region 5 with (fail)
   go_still_tail 5, (by kernel_rfl)
   go_wp2_with fail
   refine (CP.out _).mono ?_
   rintro e w2 ⟨rfl, hb2⟩
   have HB2 := Lib.hid (bthen HB.out.drew hb2)
   clear hb2 CP d0 d1 d2 g0 g1
   rw [← HPR.out]
   cases hpl : isPlace (a, c, s) (hnm, hkd) with
   | false =>
    have HX : RowKit.Hid (placesF l (hnm, hkd) (l.length - (k + 1)) (k + 1) (n : Int) = placesZ l (hnm, hkd)) := Lib.hid (by have := HS.out; rw [hpl] at this; simpa using this)
    clear hpl
    go_wp2_with fail
    exact ⟨⟨k + 1, n, by push_cast; rfl, rfl, by omega, by omega, HX.out, HB2.out⟩, by simp only [intOf]; omega⟩
   | true =>
   have HSO : RowKit.Hid (placeOK l hkd k = true → placesF l (hnm, hkd) (l.length - (k + 1)) (k + 1) ((n : Int) + 1) = placesZ l (hnm, hkd)) := Lib.hid fun e => by have := HS.out; rw [hpl, e] at this; simpa using this
   have HSN : RowKit.Hid (placeOK l hkd k = false → placesZ l (hnm, hkd) = -1) := Lib.hid fun e => by have := HS.out; rw [hpl, e] at this; simpa using this.symm
   have HYES : RowKit.Hid (placeOK l hkd k = true → ∀ W, Below w1.heap.size w1 W → rpRel l (hnm, hkd) w1 (.int .i64 ((n : Int) + 1)) (.int .i64 ((k : Int) + 1)) W) := Lib.hid fun e W hb => ⟨k + 1, n + 1, by push_cast; rfl, by push_cast; rfl, by omega, by omega, by have := HSO.out e; push_cast; exact this, hb⟩
   have HNO : RowKit.Hid (placeOK l hkd k = false → ∀ W, Below w1.heap.size w1 W → Q (.returned (.int .i64 (-1))) W) := Lib.hid fun e W hb => HQ.out (-1) W (HSN.out e) (HBX.out.trans (hb.mono HBX.out.size))
   have HBW2 : RowKit.Hid (Below w.heap.size w w2) := Lib.hid ((HBX.out.trans (HB2.out.mono HBX.out.size)))
   have hx2 := keeps HB2.out HX0.out
   have g0 : w2.cell? ⟨w.heap.size, 0, none⟩ = some (.string hnm) := by simp [World.cell?, hx2]
   have g1 : w2.cell? ⟨w.heap.size, 1, none⟩ = some (.int .u8 (hkd : Int)) := by simp [World.cell?, hx2]
   have hge := upN_ge l k
   have hlt2 := upN_less l k
   have HPK := Lib.hid (placeOK_ref l hkd k)
   have CU := Lib.hid (CUP.out k hlt w2 HBW2.out)
   have HUU := Lib.hid (show upI l k k = upN l k from rfl)
   rw [HUU.out] at CU
   have CKU := Lib.hid (CKD.out (upN l k) (by omega) w2 HBW2.out)
   have CKT := Lib.hid (CKD.out (topN l k) (by unfold topN; split; omega; have := upN_less l (upN l k).toNat; omega) w2 HBW2.out)
   have HMS : RowKit.Hid (l.length - (k + 1) < l.length - k) := Lib.hid (by omega)
   have hwn : IntKind.i64.wrap ((n : Int) + 1) = (n : Int) + 1 := by rw [IntKind.wrap_i64]; omega
   clear hx2 hpl
   go_wp2_with fail
   refine CU.out.mono ?_
   rintro e w3 ⟨rfl, rfl⟩
   clear CU
   by_cases hu : upN l k < 0
   ·have ht : topN l k = -1 := by unfold topN; rw [if_pos hu]
    rw [ht] at CKT HPK
    have HU := Lib.hid (show 0 ≤ upN l k → False from fun h => by omega)
    have hx50 : kindV l (upN l k) = 255 := kindV_neg l hu
    rw [hx50] at CKU HPK
    clear ht hx50
    generalize upN l k = u at *
    generalize kindV l (-1) = y at *
    have hu0 : ¬ (0 : Int) ≤ u := fun h => HU.out h
    clear hge hlt2
    by_cases k5 : hkd = 5
    ·subst k5
     have HZ := Lib.hid (HNO.out (by rw [HPK.out]; rfl) w2 HB2.out)
     clear HYES HNO HSO HSN HPK
     go_wp2_with fail
     refine CKU.out.mono ?_
     rintro e w4 ⟨rfl, rfl⟩
     go_wp2_with fail
     exact HZ.out
    have f5 : ((hkd : Int) == 5) = false := by rw [beq_eq_false_iff_ne]; omega
    by_cases k7 : hkd = 7
    ·subst k7
     have HZ := Lib.hid (HNO.out (by rw [HPK.out]; rfl) w2 HB2.out)
     clear HYES HNO HSO HSN HPK
     go_wp2_with fail
     refine CKU.out.mono ?_
     rintro e w4 ⟨rfl, rfl⟩
     go_wp2_with fail
     exact HZ.out
    have f7 : ((hkd : Int) == 7) = false := by rw [beq_eq_false_iff_ne]; omega
    by_cases k6 : hkd = 6
    ·subst k6
     have HZ := Lib.hid (HNO.out (by rw [HPK.out]; rfl) w2 HB2.out)
     clear HYES HNO HSO HSN HPK
     go_wp2_with fail
     refine CKU.out.mono ?_
     rintro e w4 ⟨rfl, rfl⟩
     go_wp2_with fail
     refine CKU.out.mono ?_
     rintro e w4 ⟨rfl, rfl⟩
     go_wp2_with fail
     exact HZ.out
    have f6 : ((hkd : Int) == 6) = false := by rw [beq_eq_false_iff_ne]; omega
    have HZ := Lib.hid (HYES.out (by rw [HPK.out]; rw [if_neg k5, if_neg k7, if_neg k6]) w2 HB2.out)
    clear HYES HNO HSO HSN HPK
    go_wp2_with fail
    refine ⟨?_, by have := HMS.out; first | (simp only [intOf]; omega) | (simp [intOf]; omega) | exact this⟩
    first
     | exact HZ.out
     | (repeat apply Exists.intro
        refine ⟨?_, rfl⟩
        exact HZ.out)
   ·obtain ⟨j, hj⟩ : ∃ j : Nat, upN l k = (j : Int) := ⟨(upN l k).toNat, by omega⟩
    have ht : topN l k = upN l j := by unfold topN; rw [if_neg hu, hj, Int.toNat_natCast]
    rw [ht] at CKT HPK
    have CU2 := Lib.hid (CUP.out j (by omega) w2 HBW2.out)
    rw [show upI l j j = upN l j from rfl] at CU2
    rw [hj] at CKU HPK ⊢
    have hu0 : (0 : Int) ≤ (j : Int) := by omega
    clear ht hj hge hlt2 hu
    generalize upN l j = u2 at *
    generalize kindV l u2 = y at *
    generalize kindV l (j : Int) = x at *
    by_cases k5 : hkd = 5
    ·subst k5
     cases hx : x == 50 with
     | true =>
      have hx2 : (x != 50) = false := by rw [bne_eq_false_iff_eq]; exact eq_of_beq hx
      have HZ := Lib.hid (HYES.out (by rw [HPK.out]; rw [if_pos rfl]; exact hx) w2 HB2.out)
      clear HYES HNO HSO HSN HPK
      go_wp2_with fail
      refine CU2.out.mono ?_
      rintro e w4 ⟨rfl, rfl⟩
      go_wp2_with fail
      refine CKU.out.mono ?_
      rintro e w4 ⟨rfl, rfl⟩
      go_wp2_with fail
      refine ⟨?_, by have := HMS.out; first | (simp only [intOf]; omega) | (simp [intOf]; omega) | exact this⟩
      first
       | exact HZ.out
       | (repeat apply Exists.intro
          refine ⟨?_, rfl⟩
          exact HZ.out)
     | false =>
      have hx2 : (x != 50) = true := by rw [bne_iff_ne]; exact ne_of_beq_false hx
      have HZ := Lib.hid (HNO.out (by rw [HPK.out]; rw [if_pos rfl]; exact hx) w2 HB2.out)
      clear HYES HNO HSO HSN HPK
      go_wp2_with fail
      refine CU2.out.mono ?_
      rintro e w4 ⟨rfl, rfl⟩
      go_wp2_with fail
      refine CKU.out.mono ?_
      rintro e w4 ⟨rfl, rfl⟩
      go_wp2_with fail
      exact HZ.out
    have f5 : ((hkd : Int) == 5) = false := by rw [beq_eq_false_iff_ne]; omega
    by_cases k7 : hkd = 7
    ·subst k7
     cases hx : x == 50 with
     | true =>
      have hx2 : (x != 50) = false := by rw [bne_eq_false_iff_eq]; exact eq_of_beq hx
      cases hy : y == 13 with
      | true =>
       have hy2 : (y != 13) = false := by rw [bne_eq_false_iff_eq]; exact eq_of_beq hy
       have HZ := Lib.hid (HYES.out (by rw [HPK.out]; rw [if_neg (by omega), if_pos rfl, hx, hy]; rfl) w2 HB2.out)
       clear HYES HNO HSO HSN HPK
       go_wp2_with fail
       refine CU2.out.mono ?_
       rintro e w4 ⟨rfl, rfl⟩
       go_wp2_with fail
       refine CKU.out.mono ?_
       rintro e w4 ⟨rfl, rfl⟩
       go_wp2_with fail
       refine CKT.out.mono ?_
       rintro e w4 ⟨rfl, rfl⟩
       go_wp2_with fail
       refine ⟨?_, by have := HMS.out; first | (simp only [intOf]; omega) | (simp [intOf]; omega) | exact this⟩
       first
        | exact HZ.out
        | (repeat apply Exists.intro
           refine ⟨?_, rfl⟩
           exact HZ.out)
      | false =>
       have hy2 : (y != 13) = true := by rw [bne_iff_ne]; exact ne_of_beq_false hy
       have HZ := Lib.hid (HNO.out (by rw [HPK.out]; rw [if_neg (by omega), if_pos rfl, hx, hy]; rfl) w2 HB2.out)
       clear HYES HNO HSO HSN HPK
       go_wp2_with fail
       refine CU2.out.mono ?_
       rintro e w4 ⟨rfl, rfl⟩
       go_wp2_with fail
       refine CKU.out.mono ?_
       rintro e w4 ⟨rfl, rfl⟩
       go_wp2_with fail
       refine CKT.out.mono ?_
       rintro e w4 ⟨rfl, rfl⟩
       go_wp2_with fail
       exact HZ.out
     | false =>
      have hx2 : (x != 50) = true := by rw [bne_iff_ne]; exact ne_of_beq_false hx
      have HZ := Lib.hid (HNO.out (by rw [HPK.out]; rw [if_neg (by omega), if_pos rfl, hx]; rfl) w2 HB2.out)
      clear HYES HNO HSO HSN HPK
      go_wp2_with fail
      refine CU2.out.mono ?_
      rintro e w4 ⟨rfl, rfl⟩
      go_wp2_with fail
      refine CKU.out.mono ?_
      rintro e w4 ⟨rfl, rfl⟩
      go_wp2_with fail
      exact HZ.out
    have f7 : ((hkd : Int) == 7) = false := by rw [beq_eq_false_iff_ne]; omega
    by_cases k6 : hkd = 6
    ·subst k6
     cases hx : x == 11 with
     | true =>
      have hx2 : (x != 11) = false := by rw [bne_eq_false_iff_eq]; exact eq_of_beq hx
      have HZ := Lib.hid (HYES.out (by rw [HPK.out]; rw [if_neg (by omega), if_neg (by omega), if_pos rfl, hx]; rfl) w2 HB2.out)
      clear HYES HNO HSO HSN HPK
      go_wp2_with fail
      refine CU2.out.mono ?_
      rintro e w4 ⟨rfl, rfl⟩
      go_wp2_with fail
      refine CKU.out.mono ?_
      rintro e w4 ⟨rfl, rfl⟩
      go_wp2_with fail
      refine ⟨?_, by have := HMS.out; first | (simp only [intOf]; omega) | (simp [intOf]; omega) | exact this⟩
      first
       | exact HZ.out
       | (repeat apply Exists.intro
          refine ⟨?_, rfl⟩
          exact HZ.out)
     | false =>
      have hx2 : (x != 11) = true := by rw [bne_iff_ne]; exact ne_of_beq_false hx
      cases hy : x == 12 with
      | true =>
       have hy2 : (x != 12) = false := by rw [bne_eq_false_iff_eq]; exact eq_of_beq hy
       have HZ := Lib.hid (HYES.out (by rw [HPK.out]; rw [if_neg (by omega), if_neg (by omega), if_pos rfl, hx, hy]; rfl) w2 HB2.out)
       clear HYES HNO HSO HSN HPK
       go_wp2_with fail
       refine CU2.out.mono ?_
       rintro e w4 ⟨rfl, rfl⟩
       go_wp2_with fail
       refine CKU.out.mono ?_
       rintro e w4 ⟨rfl, rfl⟩
       go_wp2_with fail
       refine CKU.out.mono ?_
       rintro e w4 ⟨rfl, rfl⟩
       go_wp2_with fail
       refine ⟨?_, by have := HMS.out; first | (simp only [intOf]; omega) | (simp [intOf]; omega) | exact this⟩
       first
        | exact HZ.out
        | (repeat apply Exists.intro
           refine ⟨?_, rfl⟩
           exact HZ.out)
      | false =>
       have hy2 : (x != 12) = true := by rw [bne_iff_ne]; exact ne_of_beq_false hy
       have HZ := Lib.hid (HNO.out (by rw [HPK.out]; rw [if_neg (by omega), if_neg (by omega), if_pos rfl, hx, hy]; rfl) w2 HB2.out)
       clear HYES HNO HSO HSN HPK
       go_wp2_with fail
       refine CU2.out.mono ?_
       rintro e w4 ⟨rfl, rfl⟩
       go_wp2_with fail
       refine CKU.out.mono ?_
       rintro e w4 ⟨rfl, rfl⟩
       go_wp2_with fail
       refine CKU.out.mono ?_
       rintro e w4 ⟨rfl, rfl⟩
       go_wp2_with fail
       exact HZ.out
    have f6 : ((hkd : Int) == 6) = false := by rw [beq_eq_false_iff_ne]; omega
    have HZ := Lib.hid (HYES.out (by rw [HPK.out]; rw [if_neg k5, if_neg k7, if_neg k6]) w2 HB2.out)
    clear HYES HNO HSO HSN HPK
    go_wp2_with fail
    refine CU2.out.mono ?_
    rintro e w4 ⟨rfl, rfl⟩
    go_wp2_with fail
    refine ⟨?_, by have := HMS.out; first | (simp only [intOf]; omega) | (simp [intOf]; omega) | exact this⟩
    first
     | exact HZ.out
     | (repeat apply Exists.intro
        refine ⟨?_, rfl⟩
        exact HZ.out)
  ·have hkl : k = l.length := by omega
   subst hkl
   have hz := HPF.out
   rw [Nat.sub_self, placesF] at hz
   have HX := Lib.hid (HQ.out _ wr hz.symm HBW.out)
   go_wp2_with fail
   exact HX.out
end Go.Proofs.YtlkheofphafofaaGreatDoor
