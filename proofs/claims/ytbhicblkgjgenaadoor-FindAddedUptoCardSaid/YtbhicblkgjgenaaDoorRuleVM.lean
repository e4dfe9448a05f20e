/- Rules, holes and binds as memory holds them. -/
import Derived.Test.YtbhicblkgjgenaaDoorRulePM
namespace Go.Proofs.YtbhicblkgjgenaaDoor
set_option linter.all false
open Go.RowKit

/-- A row's cells, in any later world. -/
theorem Row.cells {w w' : World} {v : Value} {n sz : Nat} {cs : List Value} (h : Row w v n sz cs) (hb : Below w.heap.size w w') (hn : 0 < n) :
    ∃ b off cap, v = .slice (some ⟨b, off, none⟩) n cap ∧ n ≤ cap ∧ b < w.heap.size ∧ ∀ i, i < n * sz → w'.cell? ⟨b, off + i, none⟩ = cs[i]? := by
  obtain ⟨h1, a, cap, hv, hc, hz, h2⟩ := h
  obtain ⟨b, off, ha, hlt, hcell⟩ := h2 hn
  subst ha
  exact ⟨b, off, cap, hv, hc, hlt, fun i hi => by rw [hb.cell (p := ⟨b, off + i, none⟩) hlt]; exact hcell i hi⟩
theorem Row.shape {w : World} {v : Value} {n sz : Nat} {cs : List Value} (h : Row w v n sz cs) : ∃ a cap, v = .slice a n cap ∧ n ≤ cap := by
  obtain ⟨_, a, cap, hv, hc, _⟩ := h; exact ⟨a, cap, hv, hc⟩
/-- Elements of so many cells each, one behind the other. -/
theorem flat_at {α : Type} {g : α → List Value} {sz : Nat} (hg : ∀ x, (g x).length = sz) : ∀ (l : List α) (i j : Nat) (hi : i < l.length), j < sz → (l.flatMap g)[i * sz + j]? = (g l[i])[j]?
  | x :: l, 0, j, _, hj => by
    rw [List.flatMap_cons, Nat.zero_mul, Nat.zero_add, List.getElem?_append_left (by rw [hg]; exact hj)]; rfl
  | x :: l, i + 1, j, hi, hj => by
    have h1 : (g x).length ≤ (i + 1) * sz + j := by rw [hg, Nat.add_mul]; omega
    rw [List.flatMap_cons, List.getElem?_append_right h1, hg, show (i + 1) * sz + j - sz = i * sz + j by rw [Nat.add_mul]; omega]
    rw [flat_at hg l i j (by simpa using hi) hj]
    rfl
theorem flat_len {α : Type} {g : α → List Value} {sz : Nat} (hg : ∀ x, (g x).length = sz) : ∀ l : List α, (l.flatMap g).length = l.length * sz
  | [] => by simp
  | x :: l => by rw [List.flatMap_cons, List.length_append, hg, flat_len hg l, List.length_cons, Nat.add_mul]; omega
def holeV (h : Hl) : List Value := [.string h.1, .int .u8 (h.2 : Int)]
def holesV (hs : List Hl) : List Value := hs.flatMap holeV
theorem holesV_length (hs : List Hl) : (holesV hs).length = hs.length * 2 := flat_len (g := holeV) (sz := 2) (fun _ => rfl) hs
/-- A slice of holes, read. -/
def HoleRow (w : World) (v : Value) (hs : List Hl) : Prop := Row w v hs.length 2 (holesV hs)
theorem HoleRow.below {w w' : World} {v : Value} {hs : List Hl} (h : HoleRow w v hs) (hb : Below w.heap.size w w') : HoleRow w' v hs := Row.below h hb
theorem HoleRow.at {w w' : World} {a : Option Addr} {n cap : Nat} {hs : List Hl} (h : HoleRow w (.slice a n cap) hs) (hb : Below w.heap.size w w') (hp : 0 < hs.length) :
    ∃ b off, a = some ⟨b, off, none⟩ ∧ n = hs.length ∧ hs.length ≤ cap ∧ b < w.heap.size ∧ ∀ i (hi : i < hs.length), w'.cell? ⟨b, off + i * 2, none⟩ = some (.string hs[i].1) ∧ w'.cell? ⟨b, off + i * 2 + 1, none⟩ = some (.int .u8 (hs[i].2 : Int)) := by
  obtain ⟨b, off, cap', hv, hc, hlt, hcell⟩ := Row.cells h hb hp
  simp only [Value.slice.injEq] at hv
  obtain ⟨rfl, rfl, rfl⟩ := hv
  refine ⟨b, off, rfl, rfl, hc, hlt, fun i hi => ⟨?_, ?_⟩⟩
  · rw [hcell _ (by omega)]
    have := flat_at (g := holeV) (sz := 2) (fun _ => rfl) hs i 0 hi (by omega)
    rw [Nat.add_zero] at this
    exact this
  · rw [Nat.add_assoc, hcell _ (by omega)]
    exact flat_at (g := holeV) (sz := 2) (fun _ => rfl) hs i 1 hi (by omega)
def bindV (b : Bnd) : List Value := [.string b.1, .int .i64 b.2.1, .int .i64 b.2.2]
def bindsV (bs : List Bnd) : List Value := bs.flatMap bindV
theorem bindsV_length (bs : List Bnd) : (bindsV bs).length = bs.length * 3 := flat_len (g := bindV) (sz := 3) (fun _ => rfl) bs
/-- A slice of binds, read. -/
def BindRow (w : World) (v : Value) (bs : List Bnd) : Prop := Row w v bs.length 3 (bindsV bs)
theorem BindRow.below {w w' : World} {v : Value} {bs : List Bnd} (h : BindRow w v bs) (hb : Below w.heap.size w w') : BindRow w' v bs := Row.below h hb
theorem BindRow.at {w w' : World} {a : Option Addr} {n cap : Nat} {bs : List Bnd} (h : BindRow w (.slice a n cap) bs) (hb : Below w.heap.size w w') (hp : 0 < bs.length) :
    ∃ b off, a = some ⟨b, off, none⟩ ∧ n = bs.length ∧ bs.length ≤ cap ∧ b < w.heap.size ∧ ∀ i (hi : i < bs.length), w'.cell? ⟨b, off + i * 3, none⟩ = some (.string bs[i].1) ∧ w'.cell? ⟨b, off + i * 3 + 1, none⟩ = some (.int .i64 bs[i].2.1) ∧ w'.cell? ⟨b, off + i * 3 + 2, none⟩ = some (.int .i64 bs[i].2.2) := by
  obtain ⟨b, off, cap', hv, hc, hlt, hcell⟩ := Row.cells h hb hp
  simp only [Value.slice.injEq] at hv
  obtain ⟨rfl, rfl, rfl⟩ := hv
  refine ⟨b, off, rfl, rfl, hc, hlt, fun i hi => ⟨?_, ?_, ?_⟩⟩
  · rw [hcell _ (by omega)]
    have := flat_at (g := bindV) (sz := 3) (fun _ => rfl) bs i 0 hi (by omega)
    rw [Nat.add_zero] at this
    exact this
  · rw [Nat.add_assoc, hcell _ (by omega)]
    exact flat_at (g := bindV) (sz := 3) (fun _ => rfl) bs i 1 hi (by omega)
  · rw [Nat.add_assoc, hcell _ (by omega)]
    exact flat_at (g := bindV) (sz := 3) (fun _ => rfl) bs i 2 hi (by omega)
/-- A rule by value. -/
def ruleAgg (r : RuleM) (vh vf vb : Value) : Value := .agg #[.string r.nm, .int .u8 (r.goal : Int), vh, vf, vb]
/-- What a rule's slices hold. -/
structure RuleIn (w : World) (r : RuleM) (vh vf vb : Value) : Prop where
  H : HoleRow w vh r.holes
  F : PartRow w vf r.fnd
  B : PartRow w vb r.by'
theorem RuleIn.below {w w' : World} {r : RuleM} {vh vf vb : Value} (h : RuleIn w r vh vf vb) (hb : Below w.heap.size w w') : RuleIn w' r vh vf vb := ⟨h.H.below hb, h.F.below hb, h.B.below hb⟩
def SmallL (l : List Prt) : Prop := l.length ≤ 1048576 ∧ ∀ p ∈ l, p.1 < 256 ∧ p.2.2.size ≤ 1048576
/-- Rules as the statements' inputs hold them. -/
structure SmallR (r : RuleM) : Prop where
  n : r.nm.size ≤ 1048576
  g : r.goal < 256
  h : r.holes.length ≤ 1048576 ∧ ∀ x ∈ r.holes, x.1.size ≤ 1048576 ∧ x.2 < 256
  f : SmallL r.fnd
  b : SmallL r.by'
end Go.Proofs.YtbhicblkgjgenaaDoor
namespace Go.Proofs.YtbhicblkgjgenaaDoor
set_option linter.all false
open Go.RowKit

/-- What holds at the outer loop's head. -/
def e2Rel (l : List Prt) (w : World) (iv : Value) (wr : World) : Prop :=
  ∃ (k : Nat) (E : List Int), iv = .int .i64 ((k : Int) - 1) ∧ k ≤ l.length ∧ E.length = l.length ∧ (∀ j, k ≤ j → j < l.length → E.getD j 0 = (endB l j : Int)) ∧
    wr.heap[w.heap.size]? = some (.cells (E.map (Value.int .i64)).toArray 3 (0, 0)) ∧ Below w.heap.size w wr
/-- What holds at the inner loop's head. -/
def e2In (l : List Prt) (w : World) (E : List Int) (i q : Nat) (cv : Value) (wr : World) : Prop :=
  ∃ c : Nat, cv = .int .i64 (c : Int) ∧ c ≤ q ∧ wr.heap[w.heap.size]? = some (.cells ((E.set i (kidAt l c (i + 1) : Int)).map (Value.int .i64)).toArray 3 (0, 0)) ∧ Below w.heap.size w wr
/-- What ends answers. -/
@[irreducible] def ends2Post (l : List Prt) (w0 : World) (e : Ending) (w' : World) : Prop :=
  ∃ v, e = .returned v ∧ Below w0.heap.size w0 w' ∧ w'.ownsRow w0.heap.size 3 1 v l.length ((endsL l).map (Value.int .i64))
theorem owns_block {w : World} {B g : Nat} {n : Nat} {E : List Int} (h : w.heap[g]? = some (.cells (E.map (Value.int .i64)).toArray 3 (0, 0))) (hB : B ≤ g) (hn : E.length = n) (hm : n ≤ 1000000000) : w.ownsRow B 3 1 (.slice (some ⟨g, 0, none⟩) n n) n (E.map (Value.int .i64)) :=
  ⟨by simp [hn], Or.inr ⟨g, n, _, rfl, hB, h, Nat.le_refl _, by unfold maxLen; omega, by simp [hn], by simp; rw [List.take_of_length_le (by simp [hn])]⟩⟩
set_option maxRecDepth 100000 in
set_option maxHeartbeats 8000000 in
theorem match_ends (l : List Prt) (hl : l.length ≤ 1000000000) (us : List Nat) (hus : rowsB l = some us) (v : Value) (w : World) (hr : PartRow w v l) :
    Calls Tryd.prog 25 #[v] w (ends2Post l w) := by
  have HQ : RowKit.Hid (∀ v' w', Below w.heap.size w w' → w'.ownsRow w.heap.size 3 1 v' l.length ((endsL l).map (Value.int .i64)) → ends2Post l w (.returned v') w') := Lib.hid fun v' w' h1 h2 => by
    unfold ends2Post; exact ⟨v', rfl, h1, h2⟩
  generalize ends2Post l w = Q at *
  have HR := Lib.hid hr
  have HU := Lib.hid hus
  obtain ⟨va, vcap, rfl, hvc⟩ := hr.slice
  clear hr hus
  have hmk := Tmake_ints l.length hl
  have hwl : IntKind.i64.wrap ((l.length : Int) - 1) = (l.length : Int) - 1 := by rw [IntKind.wrap_i64]; omega
  go_enter Tryd.func25, Tryd.ntmps25
  go_wp2_with fail
  have HK0 : RowKit.Hid ((w.alloc (.cells (Array.replicate l.length (Value.int .i64 0)) 3)).heap[w.heap.size]? = some (.cells ((List.replicate l.length (0 : Int)).map (Value.int .i64)).toArray 3 (0, 0))) := Lib.hid (by
    have := heap_alloc_new w (.cells (Array.replicate l.length (Value.int .i64 0)) 3)
    rw [this, List.map_replicate, List.toArray_replicate])
  have HB0 : RowKit.Hid (Below w.heap.size w (w.alloc (.cells (Array.replicate l.length (Value.int .i64 0)) 3))) := Lib.hid ((Below.refl _ _).alloc (Nat.le_refl _) _)
  generalize w.alloc (.cells (Array.replicate l.length (Value.int .i64 0)) 3) = W0 at *
  generalize hBB : w.heap.size = B at *
  have HBB := Lib.hid hBB
  clear hBB
  go_loopw [4] (fun j wr => e2Rel l w j wr) (fun j _ => (intOf j + 1).toNat)
  case atStart =>
    refine ⟨l.length, List.replicate l.length 0, rfl, Nat.le_refl _, by simp, fun i h1 h2 => by omega, ?_, ?_⟩
    · rw [HBB.out]; exact HK0.out
    · rw [HBB.out]; exact HB0.out
  case round =>
    obtain ⟨k, E, rfl, hk, hEl, hEq, hh, hb⟩ := hrel
    rw [HBB.out] at hh hb
    have HB := Lib.hid hb
    have HH := Lib.hid hh
    have HEQ := Lib.hid hEq
    have HEL := Lib.hid hEl
    have hBlt : B < wr.heap.size := lt_of_block hh
    clear hb hh hEq hEl
    by_cases hk0 : 0 < k
    · obtain ⟨i, rfl⟩ : ∃ i, k = i + 1 := ⟨k - 1, by omega⟩
      rw [show (((i + 1 : Nat) : Int) - 1) = (i : Int) by omega]
      have hil : i < l.length := hk
      obtain ⟨b, off, rfl, _, _, hbl, hcell⟩ := HR.out.at (HBB.out ▸ HB.out) (show 0 < l.length by omega)
      obtain ⟨q, hq1, hq2, hq4, hq3⟩ := kids_go HU.out hil
      have c0 : wr.cell? ⟨b, off + i * 3 + 1, none⟩ = some (.int .i64 (q : Int)) := by rw [(hcell i hil).2.1, hq1]
      have HKI := Lib.hid hq3
      have HKE := Lib.hid hq2
      have hi0 : (0 : Int) ≤ i := by omega
      have hil' : (i : Int) < l.length := by omega
      have hic : (i : Int) < vcap := by omega
      have hwi : IntKind.i64.wrap ((i : Int) + 1) = (i : Int) + 1 := by rw [IntKind.wrap_i64]; omega
      have hwm : IntKind.i64.wrap ((i : Int) - 1) = (i : Int) - 1 := by rw [IntKind.wrap_i64]; omega
      have c1 : wr.cell? ⟨B, i, none⟩ = some (.int .i64 (E.getD i 0)) := by
        simp [World.cell?, HH.out, HEL.out, hil, List.getD_eq_getElem?_getD]
      have z1 : wr.frozen? ⟨B, i, none⟩ = false := by simp [World.frozen?, HH.out]
      have hbB : b ≠ B := by have := HBB.out; omega
      have c0' : (wr.setCell ⟨B, i, none⟩ (.int .i64 ((i : Int) + 1))).cell? ⟨b, off + i * 3 + 1, none⟩ = some (.int .i64 (q : Int)) := by
        rw [Tcell_setCell_ne (by exact hbB)]; exact c0
      have HAT : RowKit.Hid (e2In l w E i q (.int .i64 0) (wr.setCell ⟨B, i, none⟩ (.int .i64 ((i : Int) + 1)))) := Lib.hid ⟨0, rfl, Nat.zero_le _, by
        rw [HBB.out, heap_setCell_same _ _ _ _ _ _ HH.out, List.setIfInBounds_toArray, ← List.map_set]; rfl, by
        rw [HBB.out]; exact HB.out.setCell (p := ⟨B, i, none⟩) (Nat.le_refl _) _⟩
      clear hcell hq1 hq2 hq3 hk0 c0 hbB
      go_wp2_with fail
      clear c1 z1 c0'
      go_loopw [25] (fun cv wx => e2In l w E i q cv wx) (fun cv _ => q - (intOf cv).toNat)
      case atStart => exact HAT.out
      case round =>
        obtain ⟨c, rfl, hcq, hh2, hb2⟩ := hrel
        rw [HBB.out] at hh2 hb2
        have HH2 := Lib.hid hh2
        have HB2 := Lib.hid hb2
        clear hh2 hb2 HAT
        by_cases hlt : c < q
        · obtain ⟨x1, x2⟩ := HKI.out c hlt
          have HXS := Lib.hid (kidAt_snoc l c (i + 1))
          generalize kidAt l c (i + 1) = x at *
          have d1 : wr.cell? ⟨B, i, none⟩ = some (.int .i64 (x : Int)) := by
            simp [World.cell?, HH2.out, HEL.out, hil]
          have d2 : wr.cell? ⟨B, x, none⟩ = some (.int .i64 (endB l x : Int)) := by
            have := HEQ.out x (by omega) x2
            rw [List.getD_eq_getElem?_getD] at this
            simp only [World.cell?, HH2.out]
            rw [← this]
            simp [HEL.out, x2, show ¬ i = x by omega]
          have d3 : wr.frozen? ⟨B, i, none⟩ = false := by simp [World.frozen?, HH2.out]
          have HN1 : RowKit.Hid ((wr.setCell ⟨B, i, none⟩ (.int .i64 (endB l x : Int))).heap[w.heap.size]? = some (.cells ((E.set i (kidAt l (c + 1) (i + 1) : Int)).map (Value.int .i64)).toArray 3 (0, 0))) := Lib.hid (by
            rw [HBB.out, HXS.out, heap_setCell_same _ _ _ _ _ _ HH2.out, List.setIfInBounds_toArray, ← List.map_set, List.set_set])
          have HN2 : RowKit.Hid (Below w.heap.size w (wr.setCell ⟨B, i, none⟩ (.int .i64 (endB l x : Int)))) := Lib.hid (by
            rw [HBB.out]; exact HB2.out.setCell (p := ⟨B, i, none⟩) (Nat.le_refl _) _)
          have hx0 : (0 : Int) ≤ (x : Int) := by omega
          have hxl : (x : Int) < l.length := by omega
          have hci : (c : Int) < q := by omega
          have hwc : IntKind.i64.wrap ((c : Int) + 1) = (c : Int) + 1 := by rw [IntKind.wrap_i64]; omega
          generalize endB l x = y at *
          clear HXS
          go_wp2_with fail
          refine ⟨⟨c + 1, by go_num, by omega, HN1.out, HN2.out⟩, by simp [intOf]; omega⟩
        · obtain rfl : c = q := by omega
          have hci : ¬ (c : Int) < (c : Int) := by omega
          have HN : RowKit.Hid (e2Rel l w (.int .i64 ((i : Int) - 1)) wr) := Lib.hid ⟨i, E.set i (endB l i : Int), rfl, by omega, by rw [List.length_set]; exact HEL.out, fun j h1 h2 => by
            rw [List.getD_eq_getElem?_getD, List.getElem?_set]
            by_cases e : i = j
            · subst e; (rw [if_pos rfl, if_pos (by rw [HEL.out]; exact hil)]; try rfl)
            · rw [if_neg e, ← List.getD_eq_getElem?_getD]; exact HEQ.out j (by omega) h2, by rw [HBB.out, ← HKE.out]; exact HH2.out, by rw [HBB.out]; exact HB2.out⟩
          go_wp2_with fail
          refine ⟨HN.out, by simp [intOf]; try omega⟩
    · obtain rfl : k = 0 := by omega
      rw [show (((0 : Nat) : Int) - 1) = -1 by rfl]
      have hEE : E = endsL l := by
        apply List.ext_getElem (by rw [HEL.out, endsL_length])
        intro j h1 h2
        have h3 := HEQ.out j (by omega) (by have := HEL.out; omega)
        have h4 := endsL_get (l := l) (j := j) (by have := HEL.out; omega)
        rw [List.getD_eq_getElem?_getD, List.getElem?_eq_getElem h1] at h3
        rw [List.getElem?_eq_getElem h2] at h4
        simp only [Option.getD_some] at h3
        rw [h3]; exact (Option.some.inj h4).symm
      subst hEE
      have HX := Lib.hid (HQ.out (.slice (some ⟨B, 0, none⟩) l.length l.length) wr HB.out (owns_block HH.out (Nat.le_refl _) (endsL_length l) hl))
      go_wp2_with fail
      exact HX.out
end Go.Proofs.YtbhicblkgjgenaaDoor
namespace Go.Proofs.YtbhicblkgjgenaaDoor
set_option linter.all false
open Go.RowKit

set_option maxRecDepth 100000 in
set_option maxHeartbeats 8000000 in
theorem find_ends (l : List Prt) (hl : l.length ≤ 1000000000) (us : List Nat) (hus : rowsB l = some us) (v : Value) (w : World) (hr : PartRow w v l) :
    Calls Tryd.prog 42 #[v] w (ends2Post l w) := by
  have HQ : RowKit.Hid (∀ v' w', Below w.heap.size w w' → w'.ownsRow w.heap.size 3 1 v' l.length ((endsL l).map (Value.int .i64)) → ends2Post l w (.returned v') w') := Lib.hid fun v' w' h1 h2 => by
    unfold ends2Post; exact ⟨v', rfl, h1, h2⟩
  generalize ends2Post l w = Q at *
  have HR := Lib.hid hr
  have HU := Lib.hid hus
  obtain ⟨va, vcap, rfl, hvc⟩ := hr.slice
  clear hr hus
  have hmk := Tmake_ints l.length hl
  have hwl : IntKind.i64.wrap ((l.length : Int) - 1) = (l.length : Int) - 1 := by rw [IntKind.wrap_i64]; omega
  go_enter Tryd.func42, Tryd.ntmps42
  go_wp2_with fail
  have HK0 : RowKit.Hid ((w.alloc (.cells (Array.replicate l.length (Value.int .i64 0)) 3)).heap[w.heap.size]? = some (.cells ((List.replicate l.length (0 : Int)).map (Value.int .i64)).toArray 3 (0, 0))) := Lib.hid (by
    have := heap_alloc_new w (.cells (Array.replicate l.length (Value.int .i64 0)) 3)
    rw [this, List.map_replicate, List.toArray_replicate])
  have HB0 : RowKit.Hid (Below w.heap.size w (w.alloc (.cells (Array.replicate l.length (Value.int .i64 0)) 3))) := Lib.hid ((Below.refl _ _).alloc (Nat.le_refl _) _)
  generalize w.alloc (.cells (Array.replicate l.length (Value.int .i64 0)) 3) = W0 at *
  generalize hBB : w.heap.size = B at *
  have HBB := Lib.hid hBB
  clear hBB
  go_loopw [4] (fun j wr => e2Rel l w j wr) (fun j _ => (intOf j + 1).toNat)
  case atStart =>
    refine ⟨l.length, List.replicate l.length 0, rfl, Nat.le_refl _, by simp, fun i h1 h2 => by omega, ?_, ?_⟩
    · rw [HBB.out]; exact HK0.out
    · rw [HBB.out]; exact HB0.out
  case round =>
    obtain ⟨k, E, rfl, hk, hEl, hEq, hh, hb⟩ := hrel
    rw [HBB.out] at hh hb
    have HB := Lib.hid hb
    have HH := Lib.hid hh
    have HEQ := Lib.hid hEq
    have HEL := Lib.hid hEl
    have hBlt : B < wr.heap.size := lt_of_block hh
    clear hb hh hEq hEl
    by_cases hk0 : 0 < k
    · obtain ⟨i, rfl⟩ : ∃ i, k = i + 1 := ⟨k - 1, by omega⟩
      rw [show (((i + 1 : Nat) : Int) - 1) = (i : Int) by omega]
      have hil : i < l.length := hk
      obtain ⟨b, off, rfl, _, _, hbl, hcell⟩ := HR.out.at (HBB.out ▸ HB.out) (show 0 < l.length by omega)
      obtain ⟨q, hq1, hq2, hq4, hq3⟩ := kids_go HU.out hil
      have c0 : wr.cell? ⟨b, off + i * 3 + 1, none⟩ = some (.int .i64 (q : Int)) := by rw [(hcell i hil).2.1, hq1]
      have HKI := Lib.hid hq3
      have HKE := Lib.hid hq2
      have hi0 : (0 : Int) ≤ i := by omega
      have hil' : (i : Int) < l.length := by omega
      have hic : (i : Int) < vcap := by omega
      have hwi : IntKind.i64.wrap ((i : Int) + 1) = (i : Int) + 1 := by rw [IntKind.wrap_i64]; omega
      have hwm : IntKind.i64.wrap ((i : Int) - 1) = (i : Int) - 1 := by rw [IntKind.wrap_i64]; omega
      have c1 : wr.cell? ⟨B, i, none⟩ = some (.int .i64 (E.getD i 0)) := by
        simp [World.cell?, HH.out, HEL.out, hil, List.getD_eq_getElem?_getD]
      have z1 : wr.frozen? ⟨B, i, none⟩ = false := by simp [World.frozen?, HH.out]
      have hbB : b ≠ B := by have := HBB.out; omega
      have c0' : (wr.setCell ⟨B, i, none⟩ (.int .i64 ((i : Int) + 1))).cell? ⟨b, off + i * 3 + 1, none⟩ = some (.int .i64 (q : Int)) := by
        rw [Tcell_setCell_ne (by exact hbB)]; exact c0
      have HAT : RowKit.Hid (e2In l w E i q (.int .i64 0) (wr.setCell ⟨B, i, none⟩ (.int .i64 ((i : Int) + 1)))) := Lib.hid ⟨0, rfl, Nat.zero_le _, by
        rw [HBB.out, heap_setCell_same _ _ _ _ _ _ HH.out, List.setIfInBounds_toArray, ← List.map_set]; rfl, by
        rw [HBB.out]; exact HB.out.setCell (p := ⟨B, i, none⟩) (Nat.le_refl _) _⟩
      clear hcell hq1 hq2 hq3 hk0 c0 hbB
      go_wp2_with fail
      clear c1 z1 c0'
      go_loopw [25] (fun cv wx => e2In l w E i q cv wx) (fun cv _ => q - (intOf cv).toNat)
      case atStart => exact HAT.out
      case round =>
        obtain ⟨c, rfl, hcq, hh2, hb2⟩ := hrel
        rw [HBB.out] at hh2 hb2
        have HH2 := Lib.hid hh2
        have HB2 := Lib.hid hb2
        clear hh2 hb2 HAT
        by_cases hlt : c < q
        · obtain ⟨x1, x2⟩ := HKI.out c hlt
          have HXS := Lib.hid (kidAt_snoc l c (i + 1))
          generalize kidAt l c (i + 1) = x at *
          have d1 : wr.cell? ⟨B, i, none⟩ = some (.int .i64 (x : Int)) := by
            simp [World.cell?, HH2.out, HEL.out, hil]
          have d2 : wr.cell? ⟨B, x, none⟩ = some (.int .i64 (endB l x : Int)) := by
            have := HEQ.out x (by omega) x2
            rw [List.getD_eq_getElem?_getD] at this
            simp only [World.cell?, HH2.out]
            rw [← this]
            simp [HEL.out, x2, show ¬ i = x by omega]
          have d3 : wr.frozen? ⟨B, i, none⟩ = false := by simp [World.frozen?, HH2.out]
          have HN1 : RowKit.Hid ((wr.setCell ⟨B, i, none⟩ (.int .i64 (endB l x : Int))).heap[w.heap.size]? = some (.cells ((E.set i (kidAt l (c + 1) (i + 1) : Int)).map (Value.int .i64)).toArray 3 (0, 0))) := Lib.hid (by
            rw [HBB.out, HXS.out, heap_setCell_same _ _ _ _ _ _ HH2.out, List.setIfInBounds_toArray, ← List.map_set, List.set_set])
          have HN2 : RowKit.Hid (Below w.heap.size w (wr.setCell ⟨B, i, none⟩ (.int .i64 (endB l x : Int)))) := Lib.hid (by
            rw [HBB.out]; exact HB2.out.setCell (p := ⟨B, i, none⟩) (Nat.le_refl _) _)
          have hx0 : (0 : Int) ≤ (x : Int) := by omega
          have hxl : (x : Int) < l.length := by omega
          have hci : (c : Int) < q := by omega
          have hwc : IntKind.i64.wrap ((c : Int) + 1) = (c : Int) + 1 := by rw [IntKind.wrap_i64]; omega
          generalize endB l x = y at *
          clear HXS
          go_wp2_with fail
          refine ⟨⟨c + 1, by go_num, by omega, HN1.out, HN2.out⟩, by simp [intOf]; omega⟩
        · obtain rfl : c = q := by omega
          have hci : ¬ (c : Int) < (c : Int) := by omega
          have HN : RowKit.Hid (e2Rel l w (.int .i64 ((i : Int) - 1)) wr) := Lib.hid ⟨i, E.set i (endB l i : Int), rfl, by omega, by rw [List.length_set]; exact HEL.out, fun j h1 h2 => by
            rw [List.getD_eq_getElem?_getD, List.getElem?_set]
            by_cases e : i = j
            · subst e; (rw [if_pos rfl, if_pos (by rw [HEL.out]; exact hil)]; try rfl)
            · rw [if_neg e, ← List.getD_eq_getElem?_getD]; exact HEQ.out j (by omega) h2, by rw [HBB.out, ← HKE.out]; exact HH2.out, by rw [HBB.out]; exact HB2.out⟩
          go_wp2_with fail
          refine ⟨HN.out, by simp [intOf]; try omega⟩
    · obtain rfl : k = 0 := by omega
      rw [show (((0 : Nat) : Int) - 1) = -1 by rfl]
      have hEE : E = endsL l := by
        apply List.ext_getElem (by rw [HEL.out, endsL_length])
        intro j h1 h2
        have h3 := HEQ.out j (by omega) (by have := HEL.out; omega)
        have h4 := endsL_get (l := l) (j := j) (by have := HEL.out; omega)
        rw [List.getD_eq_getElem?_getD, List.getElem?_eq_getElem h1] at h3
        rw [List.getElem?_eq_getElem h2] at h4
        simp only [Option.getD_some] at h3
        rw [h3]; exact (Option.some.inj h4).symm
      subst hEE
      have HX := Lib.hid (HQ.out (.slice (some ⟨B, 0, none⟩) l.length l.length) wr HB.out (owns_block HH.out (Nat.le_refl _) (endsL_length l) hl))
      go_wp2_with fail
      exact HX.out
end Go.Proofs.YtbhicblkgjgenaaDoor
