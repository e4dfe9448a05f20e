/- Layer 20: fill's ends, may, several, stmts, trees, walked. -/
import Derived.Test.YtmklemelgdilkaaDoorCheckDMh
import Derived.Test.YtmklemelgdilkaaDoorStepPMh
import Derived.Test.YtmklemelgdilkaaDoorGuardPMh
import Derived.Test.YtmklemelgdilkaaDoorTermQMh
namespace Go.Proofs.YtmklemelgdilkaaDoor
set_option linter.all false
attribute [local irreducible] Calls
open Go.RowKit

set_option maxRecDepth 100000 in
set_option maxHeartbeats 8000000 in
theorem fill_ends (l : List Prt) (hl : l.length ≤ 1000000000) (us : List Nat) (hus : rowsB l = some us) (v : Value) (w : World) (hr : PartRow w v l) :
  Calls Tryd.prog 19 #[v] w (ends2Post l w) := by
 have HQ : RowKit.Hid (∀ v' w', Below w.heap.size w w' → w'.ownsRow w.heap.size 3 1 v' l.length ((endsL l).map (Value.int .i64)) → ends2Post l w (.returned v') w') := Lib.hid fun v' w' h1 h2 => by
  unfold ends2Post; exact ⟨v', rfl, h1, h2⟩
 generalize ends2Post l w = Q at *
 have HR := Lib.hid hr
 have HU := Lib.hid hus
 obtain ⟨va, vcap, rfl, hvc⟩ := hr.slice
 clear hr hus
 have hmk := Tmake_ints l.length hl
 have hwl : IntKind.i64.wrap ((l.length : Int) - 1) = (l.length : Int) - 1 := by rw [IntKind.wrap_i64]; omega
 go_enter Tryd.func19, Tryd.ntmps19
 go_wp2_with fail
 have HK0 : RowKit.Hid ((w.alloc (.cells (Array.replicate l.length (Value.int .i64 0)) 3)).heap[w.heap.size]? = some (.cells ((List.replicate l.length (0 : Int)).map (Value.int .i64)).toArray 3 (0, 0))) := Lib.hid (by
  have := heap_alloc_new w (.cells (Array.replicate l.length (Value.int .i64 0)) 3)
  rw [this, List.map_replicate, List.toArray_replicate])
 have HB0 : RowKit.Hid (Below w.heap.size w (w.alloc (.cells (Array.replicate l.length (Value.int .i64 0)) 3))) := Lib.hid ((Below.refl _ _).alloc (Nat.le_refl _) _)
 generalize w.alloc (.cells (Array.replicate l.length (Value.int .i64 0)) 3) = W0 at *
 generalize hBB : w.heap.size = B at *
 have HBB := Lib.hid hBB
 clear hBB
 go_loopw [4] (fun j wr => e2Rel l w j wr) (fun j _ => (intOf j + 1).toNat)
 case atStart =>
  refine ⟨l.length, List.replicate l.length 0, rfl, Nat.le_refl _, by simp, fun i h1 h2 => by omega, ?_, ?_⟩
  ·rw [HBB.out]; exact HK0.out
  ·rw [HBB.out]; exact HB0.out
 case round =>
  obtain ⟨k, E, rfl, hk, hEl, hEq, hh, hb⟩ := hrel
  rw [HBB.out] at hh hb
  have HB := Lib.hid hb
  have HH := Lib.hid hh
  have HEQ := Lib.hid hEq
  have HEL := Lib.hid hEl
  have hBlt : B < wr.heap.size := lt_of_block hh
  clear hb hh hEq hEl
  by_cases hk0 : 0 < k
  ·obtain ⟨i, rfl⟩ : ∃ i, k = i + 1 := ⟨k - 1, by omega⟩
   rw [show (((i + 1 : Nat) : Int) - 1) = (i : Int) by omega]
   have hil : i < l.length := hk
   obtain ⟨b, off, rfl, _, _, hbl, hcell⟩ := HR.out.at (HBB.out ▸ HB.out) (show 0 < l.length by omega)
   obtain ⟨q, hq1, hq2, hq4, hq3⟩ := kids_go HU.out hil
   have c0 : wr.cell? ⟨b, off + i * 3 + 1, none⟩ = some (.int .i64 (q : Int)) := by rw [(hcell i hil).2.1, hq1]
   have HKI := Lib.hid hq3
   have HKE := Lib.hid hq2
   have hi0 : (0 : Int) ≤ i := by omega
   have hil' : (i : Int) < l.length := by omega
   have hic : (i : Int) < vcap := by omega
   have hwi : IntKind.i64.wrap ((i : Int) + 1) = (i : Int) + 1 := by rw [IntKind.wrap_i64]; omega
   have hwm : IntKind.i64.wrap ((i : Int) - 1) = (i : Int) - 1 := by rw [IntKind.wrap_i64]; omega
   have c1 : wr.cell? ⟨B, i, none⟩ = some (.int .i64 (E.getD i 0)) := by
    simp [World.cell?, HH.out, HEL.out, hil, List.getD_eq_getElem?_getD]
   have z1 : wr.frozen? ⟨B, i, none⟩ = false := by simp [World.frozen?, HH.out]
   have hbB : b ≠ B := by have := HBB.out; omega
   have c0' : (wr.setCell ⟨B, i, none⟩ (.int .i64 ((i : Int) + 1))).cell? ⟨b, off + i * 3 + 1, none⟩ = some (.int .i64 (q : Int)) := by
    rw [Tcell_setCell_ne (by exact hbB)]; exact c0
   have HAT : RowKit.Hid (e2In l w E i q (.int .i64 0) (wr.setCell ⟨B, i, none⟩ (.int .i64 ((i : Int) + 1)))) := Lib.hid ⟨0, rfl, Nat.zero_le _, by
    rw [HBB.out, heap_setCell_same _ _ _ _ _ _ HH.out, List.setIfInBounds_toArray, ← List.map_set]; rfl, by
    rw [HBB.out]; exact HB.out.setCell (p := ⟨B, i, none⟩) (Nat.le_refl _) _⟩
   clear hcell hq1 hq2 hq3 hk0 c0 hbB
   go_wp2_with fail
   clear c1 z1 c0'
   go_loopw [25] (fun cv wx => e2In l w E i q cv wx) (fun cv _ => q - (intOf cv).toNat)
   case atStart => exact HAT.out
   case round =>
    obtain ⟨c, rfl, hcq, hh2, hb2⟩ := hrel
    rw [HBB.out] at hh2 hb2
    have HH2 := Lib.hid hh2
    have HB2 := Lib.hid hb2
    clear hh2 hb2 HAT
    by_cases hlt : c < q
    ·obtain ⟨x1, x2⟩ := HKI.out c hlt
     have HXS := Lib.hid (kidAt_snoc l c (i + 1))
     generalize kidAt l c (i + 1) = x at *
     have d1 : wr.cell? ⟨B, i, none⟩ = some (.int .i64 (x : Int)) := by
      simp [World.cell?, HH2.out, HEL.out, hil]
     have d2 : wr.cell? ⟨B, x, none⟩ = some (.int .i64 (endB l x : Int)) := by
      have := HEQ.out x (by omega) x2
      rw [List.getD_eq_getElem?_getD] at this
      simp only [World.cell?, HH2.out]
      rw [← this]
      simp [HEL.out, x2, show ¬ i = x by omega]
     have d3 : wr.frozen? ⟨B, i, none⟩ = false := by simp [World.frozen?, HH2.out]
     have HN1 : RowKit.Hid ((wr.setCell ⟨B, i, none⟩ (.int .i64 (endB l x : Int))).heap[w.heap.size]? = some (.cells ((E.set i (kidAt l (c + 1) (i + 1) : Int)).map (Value.int .i64)).toArray 3 (0, 0))) := Lib.hid (by
      rw [HBB.out, HXS.out, heap_setCell_same _ _ _ _ _ _ HH2.out, List.setIfInBounds_toArray, ← List.map_set, List.set_set])
     have HN2 : RowKit.Hid (Below w.heap.size w (wr.setCell ⟨B, i, none⟩ (.int .i64 (endB l x : Int)))) := Lib.hid (by
      rw [HBB.out]; exact HB2.out.setCell (p := ⟨B, i, none⟩) (Nat.le_refl _) _)
     have hx0 : (0 : Int) ≤ (x : Int) := by omega
     have hxl : (x : Int) < l.length := by omega
     have hci : (c : Int) < q := by omega
     have hwc : IntKind.i64.wrap ((c : Int) + 1) = (c : Int) + 1 := by rw [IntKind.wrap_i64]; omega
     generalize endB l x = y at *
     clear HXS
     go_wp2_with fail
     refine ⟨⟨c + 1, by go_num, by omega, HN1.out, HN2.out⟩, by simp [intOf]; omega⟩
    ·obtain rfl : c = q := by omega
     have hci : ¬ (c : Int) < (c : Int) := by omega
     have HN : RowKit.Hid (e2Rel l w (.int .i64 ((i : Int) - 1)) wr) := Lib.hid ⟨i, E.set i (endB l i : Int), rfl, by omega, by rw [List.length_set]; exact HEL.out, fun j h1 h2 => by
      rw [List.getD_eq_getElem?_getD, List.getElem?_set]
      by_cases e : i = j
      ·subst e; (rw [if_pos rfl, if_pos (by rw [HEL.out]; exact hil)]; try rfl)
      ·rw [if_neg e, ← List.getD_eq_getElem?_getD]; exact HEQ.out j (by omega) h2, by rw [HBB.out, ← HKE.out]; exact HH2.out, by rw [HBB.out]; exact HB2.out⟩
     go_wp2_with fail
     refine ⟨HN.out, by simp [intOf]; try omega⟩
  ·obtain rfl : k = 0 := by omega
   rw [show (((0 : Nat) : Int) - 1) = -1 by rfl]
   have hEE : E = endsL l := by
    apply List.ext_getElem (by rw [HEL.out, endsL_length])
    intro j h1 h2
    have h3 := HEQ.out j (by omega) (by have := HEL.out; omega)
    have h4 := endsL_get (l := l) (j := j) (by have := HEL.out; omega)
    rw [List.getD_eq_getElem?_getD, List.getElem?_eq_getElem h1] at h3
    rw [List.getElem?_eq_getElem h2] at h4
    simp only [Option.getD_some] at h3
    rw [h3]; exact (Option.some.inj h4).symm
   subst hEE
   have HX := Lib.hid (HQ.out (.slice (some ⟨B, 0, none⟩) l.length l.length) wr HB.out (owns_block HH.out (Nat.le_refl _) (endsL_length l) hl))
   go_wp2_with fail
   exact HX.out
theorem may_val3 {hole k : Nat} (h1 : 1 ≤ hole) (h5 : hole ≤ 5) : mayB hole k = (if hole = 1 then decide (26 ≤ k ∧ k ≤ 48 ∧ k ≠ 38) else if hole = 2 then decide (k = 26) else if hole = 3 then decide (k = 27) else if hole = 4 then decide (k = 26 ∨ (28 ≤ k ∧ k ≤ 30) ∨ k = 35 ∨ (41 ≤ k ∧ k ≤ 48)) else decide (49 ≤ k ∧ k ≤ 68 ∧ k ≠ 62 ∧ k ≠ 64)) := by
 unfold mayB
 by_cases e1 : hole = 1
 ·rw [if_pos e1, if_pos e1, Bool.eq_iff_iff]; simp [and_assoc]
 rw [if_neg e1, if_neg e1]
 by_cases e2 : hole = 2
 ·rw [if_pos e2, if_pos e2, Bool.eq_iff_iff]; simp
 rw [if_neg e2, if_neg e2]
 by_cases e3 : hole = 3
 ·rw [if_pos e3, if_pos e3, Bool.eq_iff_iff]; simp
 rw [if_neg e3, if_neg e3]
 by_cases e4 : hole = 4
 ·rw [if_pos e4, if_pos e4, Bool.eq_iff_iff]; simp [or_assoc]
 rw [if_neg e4, if_neg e4, if_pos (by omega), Bool.eq_iff_iff]
 simp [and_assoc]
set_option maxRecDepth 100000 in
set_option maxHeartbeats 16000000 in
theorem fill_may (hole k : Nat) (h1 : 1 ≤ hole) (h5 : hole ≤ 5) (hk : k < 256) (w : World) :
  Calls Tryd.prog 28 #[.int .u8 (hole : Int), .int .u8 (k : Int)] w fun e w' => e = .returned (.bool (mayB hole k)) ∧ w = w' := by
 have HQ : RowKit.Hid (∀ x, mayB hole k = x → (fun (e : Ending) w' => e = .returned (.bool (mayB hole k)) ∧ w = w') (.returned (.bool x)) w) := Lib.hid fun x h => ⟨by rw [h], rfl⟩
 generalize (fun (e : Ending) w' => e = .returned (.bool (mayB hole k)) ∧ w = w') = Q at *
 have hh : hole = 1 ∨ hole = 2 ∨ hole = 3 ∨ hole = 4 ∨ hole = 5 := by omega
 have HV := Lib.hid (may_val3 (k := k) h1 h5)
 clear h1 h5
 rcases hh with rfl | rfl | rfl | rfl | rfl
 all_goals
  go_enter Tryd.func28, Tryd.ntmps28
  go_wp2_with fail
  all_goals
   refine HQ.out _ ?_
   rw [HV.out, Bool.eq_iff_iff]
   first
    | (simp; done)
    | (simp; simp only [beq_iff_eq, beq_eq_false_iff_ne, ne_eq] at *; omega)
    | (simp; omega)
set_option maxRecDepth 100000 in
set_option maxHeartbeats 4000000 in
theorem fill_several (s : ByteArray) (k : Nat) (w : World) :
  Calls Tryd.prog 27 #[.agg #[.string s, .int .u8 (k : Int)]] w fun e w' => e = .returned (.bool (isSev k)) ∧ Below w.heap.size w w' := by
 have HX := Lib.hid ((Below.refl w.heap.size w).alloc (Nat.le_refl _) (.cells #[.string s, .int .u8 (k : Int)] 51))
 have HQ : RowKit.Hid (∀ x w', isSev k = x → Below w.heap.size w w' → (fun (e : Ending) w' => e = .returned (.bool (isSev k)) ∧ Below w.heap.size w w') (.returned (.bool x)) w') := Lib.hid fun x w' h hb => ⟨by rw [h], hb⟩
 generalize (fun (e : Ending) w' => e = .returned (.bool (isSev k)) ∧ Below w.heap.size w w') = Q at *
 by_cases h6 : k = 6
 ·subst h6
  have HZ := Lib.hid (HQ.out true _ rfl HX.out)
  go_enter Tryd.func27, Tryd.ntmps27
  go_wp2_with fail
  exact HZ.out
 by_cases h7 : k = 7
 ·subst h7
  have HZ := Lib.hid (HQ.out true _ rfl HX.out)
  go_enter Tryd.func27, Tryd.ntmps27
  go_wp2_with fail
  exact HZ.out
 have g6 : ((k : Int) == 6) = false := by rw [beq_eq_false_iff_ne]; omega
 have g7 : ((k : Int) == 7) = false := by rw [beq_eq_false_iff_ne]; omega
 have HZ := Lib.hid (HQ.out false _ (by unfold isSev; simp [h6, h7]) HX.out)
 clear h6 h7
 go_enter Tryd.func27, Tryd.ntmps27
 go_wp2_with fail
 exact HZ.out
set_option maxRecDepth 100000 in
set_option maxHeartbeats 4000000 in
theorem fill_stmts (s : ByteArray) (k : Nat) (w : World) :
  Calls Tryd.prog 38 #[.agg #[.string s, .int .u8 (k : Int)]] w fun e w' => e = .returned (.bool (isStmt k)) ∧ Below w.heap.size w w' := by
 have HX := Lib.hid ((Below.refl w.heap.size w).alloc (Nat.le_refl _) (.cells #[.string s, .int .u8 (k : Int)] 51))
 have HQ : RowKit.Hid (∀ x w', isStmt k = x → Below w.heap.size w w' → (fun (e : Ending) w' => e = .returned (.bool (isStmt k)) ∧ Below w.heap.size w w') (.returned (.bool x)) w') := Lib.hid fun x w' h hb => ⟨by rw [h], hb⟩
 generalize (fun (e : Ending) w' => e = .returned (.bool (isStmt k)) ∧ Below w.heap.size w w') = Q at *
 by_cases h5 : k = 5
 ·subst h5
  have HZ := Lib.hid (HQ.out true _ rfl HX.out)
  go_enter Tryd.func38, Tryd.ntmps38
  go_wp2_with fail
  exact HZ.out
 by_cases h7 : k = 7
 ·subst h7
  have HZ := Lib.hid (HQ.out true _ rfl HX.out)
  go_enter Tryd.func38, Tryd.ntmps38
  go_wp2_with fail
  exact HZ.out
 have g5 : ((k : Int) == 5) = false := by rw [beq_eq_false_iff_ne]; omega
 have g7 : ((k : Int) == 7) = false := by rw [beq_eq_false_iff_ne]; omega
 have HZ := Lib.hid (HQ.out false _ (by unfold isStmt; simp [h5, h7]) HX.out)
 clear h5 h7
 go_enter Tryd.func38, Tryd.ntmps38
 go_wp2_with fail
 exact HZ.out
def ftRel (l : List Prt) (a b : Nat) (w : World) (fv nv : Value) (wr : World) : Prop := ∃ n : Nat, nv = .int .i64 (n : Int) ∧ fv = .int .i64 (kidAt l n a : Int) ∧ (∀ k, k < n → kidAt l k a < b) ∧ kidAt l n a ≤ l.length ∧ a + n ≤ kidAt l n a ∧ wr = w
set_option maxRecDepth 100000 in
set_option maxHeartbeats 4000000 in
theorem fill_trees (l : List Prt) (hl : l.length ≤ 1000000000) (us : List Nat) (hus : rowsB l = some us) (v : Value) (a b : Nat) (hab : a ≤ b) (hb : b ≤ l.length) (w : World) (hr : RowInts w v .i64 (endsL l)) :
  Calls Tryd.prog 26 #[v, .int .i64 (a : Int), .int .i64 (b : Int)] w fun e w' => (∃ (n : Nat) (x : Bool), n ≤ l.length ∧ e = .returned (.tuple #[.int .i64 (n : Int), .bool x]) ∧ (x = true → treesZ (piece l a b) = (n : Int)) ∧ (x = false → treesZ (piece l a b) = -1)) ∧ w = w' := by
 have HQ : RowKit.Hid (∀ (n : Nat) (x : Bool), n ≤ l.length → (x = true → treesZ (piece l a b) = (n : Int)) → (x = false → treesZ (piece l a b) = -1) → (fun (e : Ending) w' => (∃ (n : Nat) (x : Bool), n ≤ l.length ∧ e = .returned (.tuple #[.int .i64 (n : Int), .bool x]) ∧ (x = true → treesZ (piece l a b) = (n : Int)) ∧ (x = false → treesZ (piece l a b) = -1)) ∧ w = w') (.returned (.tuple #[.int .i64 (n : Int), .bool x])) w) := Lib.hid fun n x h0 h1 h2 => ⟨⟨n, x, h0, rfl, h1, h2⟩, rfl⟩
 generalize (fun (e : Ending) w' => (∃ (n : Nat) (x : Bool), n ≤ l.length ∧ e = .returned (.tuple #[.int .i64 (n : Int), .bool x]) ∧ (x = true → treesZ (piece l a b) = (n : Int)) ∧ (x = false → treesZ (piece l a b) = -1)) ∧ w = w') = Q at *
 have HU := Lib.hid hus
 obtain ⟨ea, ec, rfl, hec, _⟩ := hr.open'
 have hel := endsL_length l
 have HR := Lib.hid hr
 rw [hel]
 rw [hel] at hec
 clear hr hus
 go_enter Tryd.func26, Tryd.ntmps26
 go_wp2_with fail
 go_loopw [1, 8] (fun fv nv wr => ftRel l a b w fv nv wr) (fun fv _ _ => b - (intOf fv).toNat)
 case atStart => exact ⟨0, rfl, rfl, fun k hk => absurd hk (Nat.not_lt_zero _), by show a ≤ _; omega, Nat.le_refl _, rfl⟩
 case round =>
  obtain ⟨n, rfl, rfl, hlt, hle, han, rfl⟩ := hrel
  have HLT := Lib.hid hlt
  by_cases hfb : kidAt l n a < b
  ·obtain ⟨eb, eo, rfl, _, _, hcell⟩ := ints_at HR.out (Below.refl _ _) (by rw [hel]; omega)
   have c0 := hcell _ _ (endsL_get (l := l) (j := kidAt l n a) (by omega))
   have hk := endB_kid HU.out (a := a) (n := n) (by omega)
   have HX : RowKit.Hid (ftRel l a b wr (.int .i64 (kidAt l (n + 1) a : Int)) (.int .i64 ((n : Int) + 1)) wr) := Lib.hid ⟨n + 1, by push_cast; rfl, rfl, fun k hk2 => by
    by_cases e : k = n
    ·subst e; exact hfb
    ·exact HLT.out k (by omega), hk.2, by omega, rfl⟩
   rw [kidAt_snoc] at HX hk
   have hf0 : (0 : Int) ≤ (kidAt l n a : Int) := by omega
   have hfl : (kidAt l n a : Int) < l.length := by omega
   have hfc : (kidAt l n a : Int) < (ec : Int) := by omega
   have hfb' : (kidAt l n a : Int) < (b : Int) := by omega
   have hwn : IntKind.i64.wrap ((n : Int) + 1) = (n : Int) + 1 := by rw [IntKind.wrap_i64]; omega
   have HMS : RowKit.Hid (b - endB l (kidAt l n a) < b - kidAt l n a) := Lib.hid (by omega)
   clear hcell hk hlt hle
   generalize endB l (kidAt l n a) = z at *
   generalize kidAt l n a = f at *
   go_wp2_with fail
   exact ⟨HX.out, by have := HMS.out; simp only [intOf]; omega⟩
  ·have hg := trees_go HU.out hab hb hlt (by omega)
   have hfb' : ¬ (kidAt l n a : Int) < (b : Int) := by omega
   by_cases e : kidAt l n a = b
   ·have HX := Lib.hid (HQ.out n true (by omega) (fun _ => hg.1 e) (fun h => by cases h))
    rw [e]
    rw [e] at hfb'
    clear hg hlt hle e
    go_wp2_with fail
    exact HX.out
   ·have HX := Lib.hid (HQ.out n false (by omega) (fun h => by cases h) (fun _ => hg.2 e))
    have g1 : ((kidAt l n a : Int) == (b : Int)) = false := by rw [beq_eq_false_iff_ne]; omega
    clear hg hlt hle
    generalize kidAt l n a = f at *
    go_wp2_with fail
    exact HX.out
end Go.Proofs.YtmklemelgdilkaaDoor
