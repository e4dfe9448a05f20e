/- Layer 16: the program's placed, walked (with the contract of ups handed in). -/
import Derived.Test.YtmklemelgdilkaaDoorStepPMh
import Derived.Test.YtmklemelgdilkaaDoorFillBMh
namespace Go.Proofs.YtmklemelgdilkaaDoor
set_option linter.all false
attribute [local irreducible] Calls
open Go.RowKit

theorem pl_bytes_ne {x y : ByteArray} (h : x ≠ y) : x.toList ≠ y.toList := fun e => h (by
 rw [ByteArray.toList_eq, ByteArray.toList_eq] at e
 exact ByteArray.ext (Array.ext' e))
def UpsC (l : List Prt) : Prop := ∀ (v : Value) (w : World), PartRow w v l → Calls Tryd.prog 46 #[v] w fun e w' => ∃ v', e = .returned v' ∧ Below w.heap.size w w' ∧ RowInts w' v' .i64 (upsL l)
@[irreducible] def placedPost (z : Int) (w0 : World) (e : Ending) (w' : World) : Prop :=
 Below w0.heap.size w0 w' ∧ e = if 0 ≤ z then .returned (.tuple #[.int .i64 z, .bool true]) else .returned (.tuple #[.int .i64 0, .bool false])
def plRel (l : List Prt) (h : Hl) (w0 : World) (nv iv : Value) (wr : World) : Prop :=
 ∃ k n : Nat, iv = .int .i64 (k : Int) ∧ nv = .int .i64 (n : Int) ∧ k ≤ l.length ∧ n ≤ k ∧ placesF l h (l.length - k) k (n : Int) = placesZ l h ∧ Below w0.heap.size w0 wr
set_option maxRecDepth 100000 in
set_option maxHeartbeats 8000000 in
theorem rule_placed (l : List Prt) (hl : l.length ≤ 1000000000) (hf : ∀ p ∈ l, p.1 < 256) (CU : UpsC l) (v : Value) (h : Hl) (w : World) (hr : PartRow w v l) :
  Calls Tryd.prog 37 #[v, .agg #[.string h.1, .int .u8 (h.2 : Int)]] w (placedPost (placesZ l h) w) := by
 have HQ : RowKit.Hid (∀ w', Below w.heap.size w w' → 0 ≤ placesZ l h → placedPost (placesZ l h) w (.returned (.tuple #[.int .i64 (placesZ l h), .bool true])) w') := Lib.hid fun w' hb hz => by
  unfold placedPost; rw [if_pos hz]; exact ⟨hb, rfl⟩
 have HN : RowKit.Hid (∀ w', Below w.heap.size w w' → placesZ l h = -1 → placedPost (placesZ l h) w (.returned (.tuple #[.int .i64 0, .bool false])) w') := Lib.hid fun w' hb hz => by
  unfold placedPost; rw [if_neg (by omega)]; exact ⟨hb, rfl⟩
 generalize placedPost (placesZ l h) w = Q at *
 have hbx : Below w.heap.size w (w.alloc (.cells #[.string h.1, .int .u8 (h.2 : Int)] 51)) := (Below.refl _ _).alloc (Nat.le_refl _) _
 have HBX := Lib.hid hbx
 have CU := Lib.hid (CU v _ (hr.below hbx))
 have e0 : (w.alloc (.cells #[.string h.1, .int .u8 (h.2 : Int)] 51)).cell? ⟨w.heap.size, 0, none⟩ = some (.string h.1) := World.cell?_alloc_at _ _ _ _ rfl
 have e1 : (w.alloc (.cells #[.string h.1, .int .u8 (h.2 : Int)] 51)).cell? ⟨w.heap.size, 1, none⟩ = some (.int .u8 (h.2 : Int)) := World.cell?_alloc_at _ _ _ _ rfl
 have hz0 : w.heap.size < (w.alloc (.cells #[.string h.1, .int .u8 (h.2 : Int)] 51)).heap.size := by simp
 have HR := Lib.hid hr
 obtain ⟨va, vcap, rfl, hvc⟩ := hr.slice
 clear hr hbx
 go_enter Tryd.func37, Tryd.ntmps37
 go_wp2_with fail
 refine CU.out.mono ?_
 rintro e w1 ⟨vu, rfl, hb1, hup⟩
 have HB1 := Lib.hid (bthen HBX.out hb1)
 have HU := Lib.hid hup
 have HE0 := Lib.hid (show w1.cell? ⟨w.heap.size, 0, none⟩ = some (.string h.1) by rw [hb1.cell (p := ⟨w.heap.size, 0, none⟩) hz0]; exact e0)
 have HE1 := Lib.hid (show w1.cell? ⟨w.heap.size, 1, none⟩ = some (.int .u8 (h.2 : Int)) by rw [hb1.cell (p := ⟨w.heap.size, 1, none⟩) hz0]; exact e1)
 have HZ1 := Lib.hid (show w.heap.size < w1.heap.size from Nat.lt_of_lt_of_le hz0 hb1.size)
 obtain ⟨ua, ucap, hvu, _, _⟩ := hup.open'
 subst hvu
 clear hb1 hup e0 e1 hz0 CU HBX
 go_wp2_with fail
 go_loopw [6, 14] (fun nv iv wr => plRel l h w1 nv iv wr) (fun _ iv _ => l.length - (intOf iv).toNat)
 case atStart => exact ⟨0, 0, rfl, rfl, Nat.zero_le _, Nat.le_refl _, rfl, Below.refl _ _⟩
 case round =>
  obtain ⟨k, n, rfl, rfl, hk, hnk, hpf, hb⟩ := hrel
  have HB := Lib.hid hb
  have HPF := Lib.hid hpf
  clear hb hpf
  by_cases hlt : k < l.length
  ·obtain ⟨b, off, rfl, _, _, hbl, hcell⟩ := HR.out.at (bthen HB1.out HB.out) (show 0 < l.length by omega)
   obtain ⟨d0, d1, d2⟩ := hcell k hlt
   have hs := HPF.out
   rw [show l.length - k = (l.length - (k + 1)) + 1 by omega, placesF, List.getElem?_eq_getElem hlt] at hs
   generalize hp : l[k] = p at *
   obtain ⟨a, c, s⟩ := p
   simp only [] at d0 d1 d2 hs
   have hbp : Below w1.heap.size w1 (wr.alloc (.cells #[.int .u8 (a : Int), .int .i64 c, .string s] 38)) := HB.out.alloc HB.out.size _
   have g0 : (wr.alloc (.cells #[.int .u8 (a : Int), .int .i64 c, .string s] 38)).cell? ⟨w.heap.size, 0, none⟩ = some (.string h.1) := by
    rw [hbp.cell (p := ⟨w.heap.size, 0, none⟩) HZ1.out]; exact HE0.out
   have g1 : (wr.alloc (.cells #[.int .u8 (a : Int), .int .i64 c, .string s] 38)).cell? ⟨w.heap.size, 1, none⟩ = some (.int .u8 (h.2 : Int)) := by
    rw [hbp.cell (p := ⟨w.heap.size, 1, none⟩) HZ1.out]; exact HE1.out
   have hrp := HR.out.below (bthen HB1.out hbp)
   have CS := Lib.hid (rule_stands l hl _ _ _ hrp (HU.out.below hbp) k hlt h.2)
   have HBP := Lib.hid hbp
   have HS := Lib.hid hs
   clear hbp hrp hs hcell
   by_cases ha : a = 26
   ·subst ha
    rw [show ((26 : Nat) : Int) = 26 from rfl] at d0 g0 g1 CS HBP
    by_cases hw : s = h.1
    ·subst hw
     by_cases ho : placeOK l h.2 k = true
     ·have HX : RowKit.Hid (placesF l h (l.length - (k + 1)) (k + 1) ((n : Int) + 1) = placesZ l h) := Lib.hid (by
       have := HS.out; unfold isPlace at this; simpa [ho] using this)
      rw [ho] at CS
      go_wp2_with fail
      refine CS.out.mono ?_
      rintro e w2 ⟨rfl, rfl⟩
      go_wp2_with fail
      case roundEnd => exact ⟨⟨k + 1, n + 1, by push_cast; rfl, by push_cast; rfl, by omega, by omega, by have := HX.out; push_cast; exact this, HBP.out⟩, by simp only [intOf]; omega⟩
     ·have ho : placeOK l h.2 k = false := by simpa using ho
      have HX : RowKit.Hid (placesZ l h = -1) := Lib.hid (by
       have := HS.out; unfold isPlace at this; simpa [ho] using this.symm)
      rw [ho] at CS
      go_wp2_with fail
      refine CS.out.mono ?_
      rintro e w2 ⟨rfl, rfl⟩
      go_wp2_with fail
      exact HN.out _ (bthen HB1.out HBP.out) HX.out
    ·have HX : RowKit.Hid (placesF l h (l.length - (k + 1)) (k + 1) (n : Int) = placesZ l h) := Lib.hid (by
      have := HS.out; unfold isPlace at this; simpa [hw] using this)
     have g2 : (s.toList == h.1.toList) = false := by rw [beq_eq_false_iff_ne]; exact pl_bytes_ne hw
     go_wp2_with fail
     case roundEnd => exact ⟨⟨k + 1, n, by push_cast; rfl, rfl, by omega, by omega, HX.out, HBP.out⟩, by simp only [intOf]; omega⟩
   ·have HX : RowKit.Hid (placesF l h (l.length - (k + 1)) (k + 1) (n : Int) = placesZ l h) := Lib.hid (by
     have := HS.out; unfold isPlace at this; simpa [ha] using this)
    have g2 : ((a : Int) == 26) = false := by rw [beq_eq_false_iff_ne]; omega
    go_wp2_with fail
    case roundEnd => exact ⟨⟨k + 1, n, by push_cast; rfl, rfl, by omega, by omega, HX.out, HBP.out⟩, by simp only [intOf]; omega⟩
  ·have hkl : k = l.length := by omega
   subst hkl
   have hz := HPF.out
   rw [Nat.sub_self, placesF] at hz
   have HX := Lib.hid (HQ.out wr (bthen HB1.out HB.out) (by omega))
   rw [← hz] at HX
   go_wp2_with fail
   exact HX.out
end Go.Proofs.YtmklemelgdilkaaDoor
namespace Go.Proofs.YtmklemelgdilkaaDoor
set_option linter.all false

section
variable {l : List Prt}
def upsAt (l : List Prt) (i k j : Nat) : Int := if j = 0 then -1 else if upN l j < (i : Int) ∨ (upN l j = (i : Int) ∧ j < k) then upN l j else 0
def upsE (l : List Prt) (i k : Nat) : List Int := (List.range l.length).map (upsAt l i k)
theorem upsE_at {i k j : Nat} (h : j < (upsE l i k).length) : (upsE l i k)[j] = upsAt l i k j := by simp [upsE]
theorem upsE_set {us : List Nat} (hl : rowsB l = some us) {i k : Nat} (hi : i < l.length) (h1 : i < k) (h2 : k < endB l i) (hu : upN l k = (i : Int)) : (upsE l i k).set k (i : Int) = upsE l i (endB l k) := by
 have hg := endB_gt hl hi
 have hk := endB_gt hl (show k < l.length by omega)
 apply List.ext_getElem (by simp [upsE])
 intro j g1 g2
 simp [upsE] at g1
 rw [List.getElem_set, upsE_at, upsE_at]
 unfold upsAt
 by_cases e : k = j
 ·subst e
  rw [if_pos rfl, if_neg (by omega), if_pos (Or.inr ⟨hu, hk.1⟩), hu]
 ·rw [if_neg e]
  by_cases j0 : j = 0
  ·rw [if_pos j0, if_pos j0]
  ·rw [if_neg j0, if_neg j0]
   congr 1
   apply propext
   constructor
   ·rintro (g | ⟨g, g3⟩)
    ·exact Or.inl g
    ·exact Or.inr ⟨g, by omega⟩
   ·rintro (g | ⟨g, g3⟩)
    ·exact Or.inl g
    ·refine Or.inr ⟨g, ?_⟩
     apply Classical.byContradiction
     intro hc
     unfold upN at g
     have := (up_max l g).2.2 k (by omega) (by omega)
     omega
theorem upsE_next {us : List Nat} (hl : rowsB l = some us) {i k : Nat} (hi : i < l.length) (h2 : endB l i ≤ k) : upsE l i k = upsE l (i + 1) (i + 1 + 1) := by
 unfold upsE
 apply List.map_congr_left
 intro j hj
 unfold upsAt
 by_cases j0 : j = 0
 ·rw [if_pos j0, if_pos j0]
 ·rw [if_neg j0, if_neg j0]
  congr 1
  apply propext
  have key : ∀ a : Nat, upN l j = (a : Int) → a < j ∧ j < endB l a := fun a g => by
   unfold upN at g
   have := up_max l g
   exact ⟨this.1, this.2.1⟩
  constructor
  ·rintro (g | ⟨g, _⟩)
   ·exact Or.inl (by push_cast; omega)
   ·exact Or.inl (by push_cast; omega)
  ·rintro (g | ⟨g, g3⟩)
   ·push_cast at g
    by_cases e : upN l j = (i : Int)
    ·exact Or.inr ⟨e, by have := (key i e).2; omega⟩
    ·exact Or.inl (by omega)
   ·have := key (i + 1) g
    omega
theorem upsE_start' (hw : wellB l = true) : upsE l 0 1 = (List.replicate l.length (0 : Int)).set 0 (-1) := by
 apply List.ext_getElem (by simp [upsE])
 intro j g1 g2
 simp [upsE] at g1
 rw [List.getElem_set, upsE_at, List.getElem_replicate]
 unfold upsAt
 by_cases e : 0 = j
 ·subst e; rfl
 ·rw [if_neg (by omega), if_neg e, if_neg]
  have := up_pos hw g1 j (by omega)
  have : 0 ≤ upN l j := this
  omega
theorem upsE_end {k : Nat} : upsE l l.length k = (List.range l.length).map (upN l) := by
 unfold upsE
 apply List.map_congr_left
 intro j hj
 rw [List.mem_range] at hj
 unfold upsAt
 by_cases e : j = 0
 ·subst e; rfl
 ·rw [if_neg e, if_pos]
  have := upN_less l j
  exact Or.inl (by omega)
theorem up_kid {us : List Nat} (hl : rowsB l = some us) {i : Nat} (hi : i < l.length) : ∀ n, (∀ m, m ≤ n → kidAt l m (i + 1) < endB l i) → i < kidAt l n (i + 1) ∧ ∀ j, i < j → j < kidAt l n (i + 1) → endB l j ≤ kidAt l n (i + 1)
 | 0, _ => ⟨by show i < i + 1; omega, fun j h1 h2 => by have : j < i + 1 := h2; omega⟩
 | n + 1, h => by
  obtain ⟨h1, h2⟩ := up_kid hl hi n (fun m hm => h m (by omega))
  have hg := endB_gt hl hi
  have hn := h n (by omega)
  have hk := endB_gt hl (show kidAt l n (i + 1) < l.length by omega)
  rw [kidAt_snoc]
  refine ⟨by omega, fun j g1 g2 => ?_⟩
  rcases Nat.lt_trichotomy j (kidAt l n (i + 1)) with c | c | c
  ·have := h2 j g1 c; omega
  ·rw [c]; exact Nat.le_refl _
  ·exact end_within hl (show kidAt l n (i + 1) < l.length by omega) (Nat.le_of_lt c) g2
theorem up_kid' {us : List Nat} (hl : rowsB l = some us) {i : Nat} (hi : i < l.length) {n : Nat} (h : ∀ m, m ≤ n → kidAt l m (i + 1) < endB l i) : upN l (kidAt l n (i + 1)) = (i : Int) := by
 obtain ⟨h1, h2⟩ := up_kid hl hi n h
 exact up_of hl hi h1 (h n (Nat.le_refl _)) h2
end
section
variable (l : List Prt)
def moreL (A : List Mk) : List Int := (List.range l.length).map fun i => moreAt l A i
theorem moreL_len (A : List Mk) : (moreL l A).length = l.length := by simp [moreL]
theorem moreL_at {A : List Mk} {j : Nat} (h : j < (moreL l A).length) : (moreL l A)[j] = moreAt l A j := by simp [moreL]
theorem moreL_nil : moreL l [] = List.replicate l.length 0 := by
 apply List.ext_getElem (by simp [moreL])
 intro j g1 g2
 simp [moreL, moreAt]
theorem moreAt_snoc (x : Nat) (m : List PN) (d : Int) (i : Nat) : ∀ A : List Mk, moreAt l (A ++ [(x, m, d)]) i = moreAt l A i + (if 0 < x ∧ upN l x = (i : Int) then d else 0)
 | [] => by simp [moreAt]
 | (y, m', d') :: A => by rw [List.cons_append, moreAt, moreAt, moreAt_snoc x m d i A]; omega
theorem moreL_snoc (A : List Mk) {x u : Nat} (m : List PN) (d : Int) (hx : 0 < x) (hu : upN l x = (u : Int)) (hul : u < l.length) : moreL l (A ++ [(x, m, d)]) = (moreL l A).set u (moreAt l A u + d) := by
 apply List.ext_getElem (by simp [moreL])
 intro j g1 g2
 rw [List.getElem_set, moreL_at, moreL_at, moreAt_snoc]
 by_cases e : u = j
 ·subst e; rw [if_pos rfl, if_pos ⟨hx, hu⟩]
 ·rw [if_neg e, if_neg (fun h => e (by omega))]; omega
theorem moreL_top (A : List Mk) (m : List PN) (d : Int) : moreL l (A ++ [(0, m, d)]) = moreL l A := by
 unfold moreL
 apply List.map_congr_left
 intro j _
 rw [moreAt_snoc, if_neg (fun h => by omega)]; omega
theorem moreAt_bd (i : Nat) : ∀ A : List Mk, (∀ p ∈ A, -1 ≤ p.2.2 ∧ p.2.2 ≤ 131072) → -((A.length : Int) * 131072) ≤ moreAt l A i ∧ moreAt l A i ≤ (A.length : Int) * 131072
 | [], _ => by simp [moreAt]
 | (x, m, d) :: A, h => by
  have h1 := h (x, m, d) (by simp)
  have h2 := moreAt_bd i A (fun p hp => h p (by simp [hp]))
  simp only [] at h1
  rw [moreAt, List.length_cons]
  push_cast
  split <;> omega
def laterS : List Mk → Int
 | [] => 0
 | (x, m, _) :: P => (m.length : Int) - ((endB l x : Int) - x) + laterS P
theorem laterZ_sum : ∀ (P : List Mk) (a : Nat), laterZ l P a = (l.length : Int) - a + laterS l P
 | [], a => by rw [laterZ, laterS]; omega
 | (x, m, d) :: P, a => by rw [laterZ, laterS, laterZ_sum P]; omega
theorem take_snocX {α : Type} (L : List α) {n : Nat} (h : n < L.length) : L.take (n + 1) = L.take n ++ [L[n]] := by
 rw [List.take_succ, List.getElem?_eq_getElem h]; rfl
end
theorem treesP_bd {r : RuleM} {l : List Prt} {bs : List Bnd} (hr : ruleZ r = 0) (hb : rightB r l bs = true) (hv : ∀ h, ∃ ts, rowsB (piece l (bOf bs h).1 (bOf bs h).2) = some ts) : 0 ≤ treesP r l bs ∧ treesP r l bs ≤ (outP r l bs).length := by
 obtain ⟨ts, h⟩ := trees_out hr (right_in hb) hv
 unfold treesP
 rw [treesZ_of h]
 have := (rowsB_sum h).2.1
 rw [List.length_map] at this
 omega
end Go.Proofs.YtmklemelgdilkaaDoor
namespace Go.Proofs.YtmklemelgdilkaaDoor
set_option linter.all false
attribute [local irreducible] Calls
open Go.RowKit

@[irreducible] def fupsPost (l : List Prt) (w0 : World) (e : Ending) (w' : World) : Prop :=
 ∃ v, e = .returned v ∧ Below w0.heap.size w0 w' ∧ w'.ownsRow w0.heap.size 3 1 v l.length (((List.range l.length).map (upN l)).map (Value.int .i64))
def fupRel (l : List Prt) (w : World) (iv : Value) (wr : World) : Prop := ∃ i : Nat, iv = .int .i64 (i : Int) ∧ i ≤ l.length ∧ wr.heap[w.heap.size]? = some (.cells ((upsE l i (i + 1)).map (Value.int .i64)).toArray 3 (0, 0)) ∧ Below w.heap.size w wr
def fupKid (l : List Prt) (i : Nat) (w : World) (kv : Value) (wr : World) : Prop := ∃ n : Nat, kv = .int .i64 (kidAt l n (i + 1) : Int) ∧ (∀ m, m < n → kidAt l m (i + 1) < endB l i) ∧ kidAt l n (i + 1) ≤ l.length ∧ wr.heap[w.heap.size]? = some (.cells ((upsE l i (kidAt l n (i + 1))).map (Value.int .i64)).toArray 3 (0, 0)) ∧ Below w.heap.size w wr
set_option maxRecDepth 100000 in
set_option maxHeartbeats 8000000 in
theorem fill_ups (l : List Prt) (hl : l.length ≤ 1000000000) (hw : wellB l = true) (vl ve : Value) (w : World) (hlr : PartRow w vl l) (her : RowInts w ve .i64 (endsL l)) :
  Calls Tryd.prog 20 #[vl, ve] w (fupsPost l w) := by
 have HQ : RowKit.Hid (∀ v' w', Below w.heap.size w w' → w'.ownsRow w.heap.size 3 1 v' l.length (((List.range l.length).map (upN l)).map (Value.int .i64)) → fupsPost l w (.returned v') w') := Lib.hid fun v' w' h1 h2 => by
  unfold fupsPost; exact ⟨v', rfl, h1, h2⟩
 generalize fupsPost l w = Q at *
 have HU := Lib.hid (well_rows hw)
 have h0 := (well_zero hw).1
 have HS := Lib.hid (upsE_start' hw)
 have hel := endsL_length l
 have HR := Lib.hid her
 obtain ⟨va, vcap, rfl, hvc⟩ := hlr.slice
 obtain ⟨ea, ec, rfl, hec, hop⟩ := her.open'
 rw [hel] at hec
 obtain ⟨eb, eo, rfl, heb, y3⟩ := hop (by rw [hel]; omega)
 clear y3 hlr her hw hop
 have hmk := Tmake_ints l.length hl
 rw [hel] at HR
 rw [hel]
 go_enter Tryd.func20, Tryd.ntmps20
 have h00 : (0 : Int) < l.length := by omega
 have HZ1 : RowKit.Hid ((w.alloc (.cells ((Array.replicate l.length (Value.int .i64 0)).setIfInBounds 0 (.int .i64 (-1))) 3)).heap[w.heap.size]? = some (.cells ((upsE l 0 (0 + 1)).map (Value.int .i64)).toArray 3 (0, 0))) := Lib.hid (by
  rw [HS.out, heap_alloc_new, List.map_set, List.map_replicate, ← List.setIfInBounds_toArray, List.toArray_replicate])
 have HZ2 : RowKit.Hid (Below w.heap.size w (w.alloc (.cells ((Array.replicate l.length (Value.int .i64 0)).setIfInBounds 0 (.int .i64 (-1))) 3))) := Lib.hid ((Below.refl _ _).alloc (Nat.le_refl _) _)
 have z0 : (w.alloc (.cells (Array.replicate l.length (Value.int .i64 0)) 3)).cell? ⟨w.heap.size, 0, none⟩ = some (.int .i64 0) := by
  rw [World.cell?_alloc_at _ _ _ _ rfl]; simp [h0]
 have z1 : (w.alloc (.cells (Array.replicate l.length (Value.int .i64 0)) 3)).frozen? ⟨w.heap.size, 0, none⟩ = false := by
  unfold World.frozen?
  rw [heap_alloc_new]
  rfl
 go_wp2_with fail
 clear z0 z1
 generalize w.alloc (.cells ((Array.replicate l.length (Value.int .i64 0)).setIfInBounds 0 (.int .i64 (-1))) 3) = W0 at *
 generalize hBB : w.heap.size = B at *
 have HBB := Lib.hid hBB
 clear hBB
 go_loopw [15] (fun iv wr => fupRel l w iv wr) (fun iv _ => l.length - (intOf iv).toNat)
 case atStart => exact ⟨0, rfl, Nat.zero_le _, by rw [HBB.out]; exact HZ1.out, by rw [HBB.out]; exact HZ2.out⟩
 case round =>
  obtain ⟨i, rfl, hi, hh, hb⟩ := hrel
  rw [HBB.out] at hh hb
  have HH := Lib.hid hh
  have HB := Lib.hid hb
  clear hh hb
  by_cases hlt : i < l.length
  case neg =>
   obtain rfl : i = l.length := by omega
   have HX := Lib.hid (HQ.out (.slice (some ⟨B, 0, none⟩) l.length l.length) wr HB.out (owns_block (by rw [← upsE_end]; exact HH.out) (Nat.le_refl _) (by simp) hl))
   go_wp2_with fail
   exact HX.out
  have hi0 : (0 : Int) ≤ (i : Int) := by omega
  have hil : (i : Int) < l.length := by omega
  have hic : (i : Int) < ec := by omega
  have hwi : IntKind.i64.wrap ((i : Int) + 1) = (i : Int) + 1 := by rw [IntKind.wrap_i64]; omega
  have hgi := endB_gt HU.out hlt
  have HAT : RowKit.Hid (fupKid l i w (.int .i64 ((i : Int) + 1)) wr) := Lib.hid ⟨0, by show _ = Value.int .i64 (((i + 1 : Nat)) : Int); push_cast; rfl, fun m hm => absurd hm (Nat.not_lt_zero _), hlt, by rw [HBB.out]; exact HH.out, by rw [HBB.out]; exact HB.out⟩
  go_wp2_with fail
  go_loopw [7] (fun kv wx => fupKid l i w kv wx) (fun kv _ => endB l i - (intOf kv).toNat)
  case atStart => exact HAT.out
  case round =>
   obtain ⟨n, rfl, hlm, hkl, hh2, hb2⟩ := hrel
   rw [HBB.out] at hh2 hb2
   have HH2 := Lib.hid hh2
   have HB2 := Lib.hid hb2
   have HLM := Lib.hid hlm
   clear hh2 hb2 HAT hlm
   obtain ⟨b2, o2, e', y1, y2, hcell⟩ := ints_at HR.out (HBB.out ▸ HB2.out) (by rw [hel]; omega)
   simp only [Option.some.injEq, Addr.mk.injEq, and_true] at e'
   obtain ⟨rfl, rfl⟩ := e'
   clear y1 y2
   have ci := hcell _ _ (endsL_get (l := l) (j := i) hlt)
   by_cases hke : kidAt l n (i + 1) < endB l i
   case neg =>
    have g1 : ¬ (kidAt l n (i + 1) : Int) < (endB l i : Int) := by omega
    have HX : RowKit.Hid (fupRel l w (.int .i64 ((i : Int) + 1)) wr) := Lib.hid ⟨i + 1, by push_cast; rfl, hlt, by rw [HBB.out, ← upsE_next HU.out hlt (show endB l i ≤ kidAt l n (i + 1) by omega)]; exact HH2.out, by rw [HBB.out]; exact HB2.out⟩
    clear hcell hkl hke
    generalize kidAt l n (i + 1) = k at *
    generalize endB l i = ei at *
    go_wp2_with fail
    exact ⟨HX.out, by simp only [intOf]; omega⟩
   have hall : ∀ m, m ≤ n → kidAt l m (i + 1) < endB l i := fun m hm => by
    by_cases e : m = n
    ·subst e; exact hke
    ·exact HLM.out m (by omega)
   have hup := up_kid' HU.out hlt hall
   have hik := (up_kid HU.out hlt n hall).1
   have ck := hcell _ _ (endsL_get (l := l) (j := kidAt l n (i + 1)) (by omega))
   have hkg := endB_gt HU.out (show kidAt l n (i + 1) < l.length by omega)
   have hcB : wr.cell? ⟨B, kidAt l n (i + 1), none⟩ = some (.int .i64 (upsAt l i (kidAt l n (i + 1)) (kidAt l n (i + 1)))) := by
    simp [World.cell?, HH2.out, upsE, show kidAt l n (i + 1) < l.length by omega]
   have hzB : wr.frozen? ⟨B, kidAt l n (i + 1), none⟩ = false := by simp [World.frozen?, HH2.out]
   have hbB : eb ≠ B := by have := HBB.out; omega
   have ck2 : (wr.setCell ⟨B, kidAt l n (i + 1), none⟩ (.int .i64 (i : Int))).cell? ⟨eb, eo + kidAt l n (i + 1), none⟩ = some (.int .i64 (endB l (kidAt l n (i + 1)) : Int)) := by
    rw [Tcell_setCell_ne (by exact hbB)]; exact ck
   have HX : RowKit.Hid (fupKid l i w (.int .i64 (endB l (kidAt l n (i + 1)) : Int)) (wr.setCell ⟨B, kidAt l n (i + 1), none⟩ (.int .i64 (i : Int)))) := Lib.hid ⟨n + 1, by rw [kidAt_snoc], fun m hm => hall m (by omega), by rw [kidAt_snoc]; exact hkg.2, by
    rw [HBB.out, kidAt_snoc, ← upsE_set HU.out hlt hik hke hup, heap_setCell_same _ _ _ _ _ _ HH2.out, List.map_set, List.setIfInBounds_toArray], by rw [HBB.out]; exact HB2.out.setCell (p := ⟨B, _, none⟩) (Nat.le_refl _) _⟩
   have hk0 : (0 : Int) ≤ (kidAt l n (i + 1) : Int) := by omega
   have hkl1 : (kidAt l n (i + 1) : Int) < l.length := by omega
   have hkc1 : (kidAt l n (i + 1) : Int) < ec := by omega
   have hke1 : (kidAt l n (i + 1) : Int) < (endB l i : Int) := by omega
   have hkm : RowKit.Hid (endB l i - endB l (kidAt l n (i + 1)) < endB l i - kidAt l n (i + 1)) := Lib.hid (by omega)
   generalize upsAt l i (kidAt l n (i + 1)) (kidAt l n (i + 1)) = old at *
   clear hcell hkl hke hall hup hik hkg
   generalize endB l (kidAt l n (i + 1)) = ek at *
   generalize kidAt l n (i + 1) = k at *
   generalize endB l i = ei at *
   go_wp2_with fail
   exact ⟨HX.out, by have := hkm.out; simp only [intOf]; omega⟩
end Go.Proofs.YtmklemelgdilkaaDoor
