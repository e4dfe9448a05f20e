/- Layer 17: what match.At holds in memory while it lays the seeker out. -/
import Derived.Test.YtlkheofphafofaaGreatDoorMapUMd
import Derived.Test.YtlkheofphafofaaGreatDoorRuleVMd
import Derived.Test.YtlkheofphafofaaGreatDoorAppEqMd
import Derived.Test.YtlkheofphafofaaGreatDoorTermSameMd
namespace Go.Proofs.YtlkheofphafofaaGreatDoor
set_option linter.all false
open Go.RowKit

theorem other_block {w w' : World} {B : Nat} {e : TypeId} {size n : Nat} {v : Value} {xs : List Value} (h : w.ownsRow B e size v n xs) (hg : w.grownBy w' v.ownBlock) {g : Nat} {cs : Array Value} {t : TypeId} {fr : Nat × Nat} (hb : w.heap[g]? = some (.cells cs t fr)) (ht : t ≠ e) :
  w'.heap[g]? = some (.cells cs t fr) := by
 rw [hg.block g (keeps_lt hb) ?_, hb]
 intro e1
 rcases h.2 with ⟨rfl, _⟩ | ⟨k, cap, cur, rfl, _, hh, _⟩
 ·simp [Value.ownBlock] at e1
 ·simp [Value.ownBlock] at e1
  subst e1
  rw [hb] at hh
  cases hh
  exact ht rfl
theorem other_row {w w' : World} {B B2 : Nat} {e e2 : TypeId} {size n size2 n2 : Nat} {v v2 : Value} {xs xs2 : List Value} (h : w.ownsRow B e size v n xs) (hg : w.grownBy w' v.ownBlock) (h2 : w.ownsRow B2 e2 size2 v2 n2 xs2) (ht : e2 ≠ e) : w'.ownsRow B2 e2 size2 v2 n2 xs2 := by
 obtain ⟨g1, g2⟩ := h2
 refine ⟨g1, ?_⟩
 rcases g2 with g2 | ⟨k, cap, cur, hv, hk, hh, r⟩
 ·exact Or.inl g2
 ·exact Or.inr ⟨k, cap, cur, hv, hk, other_block h hg hh ht, r⟩
theorem Row.same {w w' : World} {v : Value} {n sz : Nat} {cs : List Value} (h : Row w v n sz cs) (hk : ∀ b, v.ownBlock = some b → b < w.heap.size → b < w'.heap.size ∧ w'.heap[b]? = w.heap[b]?) : Row w' v n sz cs := by
 obtain ⟨h1, a, cap, hv, hc, hz, h2⟩ := h
 refine ⟨h1, a, cap, hv, hc, hz, fun hn => ?_⟩
 obtain ⟨b, off, ha, hlt, hcell⟩ := h2 hn
 subst ha
 obtain ⟨k1, k2⟩ := hk b (by rw [hv]; rfl) hlt
 refine ⟨b, off, rfl, k1, fun i hi => ?_⟩
 rw [← hcell i hi]
 simp only [World.cell?, k2]
theorem Row.no_map {w : World} {v : Value} {n sz : Nat} {cs : List Value} (h : Row w v n sz cs) (hn : 0 < n) (hsz : 0 < sz) {bm k : Nat} {M : ByteArray → Option Int} (hm : MapIs w bm k M) : ∀ b, v.ownBlock = some b → b ≠ bm := by
 obtain ⟨h1, a, cap, hv, hc, hz, h2⟩ := h
 obtain ⟨b, off, ha, hlt, hcell⟩ := h2 hn
 subst ha
 intro b' hb' e
 rw [hv] at hb'
 obtain rfl : b = b' := by simpa [Value.ownBlock] using hb'
 subst e
 obtain ⟨D, ⟨es, clock, hb, _⟩, _⟩ := hm
 have h0 : 0 < cs.length := by rw [h1]; exact Nat.mul_pos hn hsz
 have := hcell 0 (Nat.mul_pos hn hsz)
 rw [List.getElem?_eq_getElem h0] at this
 simp [World.cell?, hb] at this
theorem World.ownsRow.base_mono {w : World} {B B' : Nat} {e : TypeId} {size n : Nat} {v : Value} {xs : List Value} (h : w.ownsRow B e size v n xs) (hb : B' ≤ B) : w.ownsRow B' e size v n xs := by
 refine ⟨h.1, ?_⟩
 rcases h.2 with h2 | ⟨g, cap, cur, hv, hg, r⟩
 ·exact Or.inl h2
 ·exact Or.inr ⟨g, cap, cur, hv, Nat.le_trans hb hg, r⟩
theorem wf_small (n : Nat) (h : n < 1000000) : (Lit.int .i64 (n : Int)).wf = true := by
 have h1 : IntKind.i64.min = -9223372036854775808 := by decide
 have h2 : IntKind.i64.max = 9223372036854775807 := by decide
 simp only [Lit.wf, h1, h2, Bool.and_eq_true, decide_eq_true_eq]
 omega
def bind0 (h : Hl) : Bnd := (h.1, 0, 0)
def kindsV (hs : List Hl) : List Value := (kindsI hs).map (Value.int .u8)
theorem kindsV_snoc (hs : List Hl) (h : Hl) : kindsV (hs ++ [h]) = kindsV hs ++ [.int .u8 (h.2 : Int)] := by simp [kindsV, kindsI]
theorem binds0_snoc (hs : List Hl) (h : Hl) : bindsV ((hs ++ [h]).map bind0) = bindsV (hs.map bind0) ++ [.string h.1, .int .i64 0, .int .i64 0] := by simp [bindsV, bindV, bind0]
def holeO (h : Hl) : Obj := .cells #[.string h.1, .int .u8 (h.2 : Int)] 43 (0, 0)
structure AtW (g bm : Nat) (hm hk hb : List Hl) (vf vl vfe ve vk vb : Value) (X : List (Nat × Hl)) (B0 : Nat) (w0 W8 W : World) : Prop where
 s : W.heap[g]? = some (.cells #[vf, vl, vfe, ve, .map (some bm), vk, vb, .slice none 0 0] 73 (0, 0))
 m : MapIs W bm hm.length (holeM hm)
 k : W.ownsRow (g + 1) 5 1 vk hk.length (kindsV hk)
 b : W.ownsRow (g + 1) 41 3 vb hb.length (bindsV (hb.map bind0))
 old : ∀ j, j < g → j ≠ bm → W.heap[j]? = W8.heap[j]?
 lt : B0 ≤ bm ∧ bm < g
 below : Below B0 w0 W
 base : g + 1 ≤ W.heap.size
 x : ∀ p ∈ X, W.heap[p.1]? = some (holeO p.2) ∧ g < p.1
theorem AtW.alloc {g bm : Nat} {hm hk hb : List Hl} {vf vl vfe ve vk vb : Value} {X : List (Nat × Hl)} {B0 : Nat} {w0 W8 W : World} (h : AtW g bm hm hk hb vf vl vfe ve vk vb X B0 w0 W8 W) (o : Obj) : AtW g bm hm hk hb vf vl vfe ve vk vb X B0 w0 W8 (W.alloc o) := by
 have hbs := h.base
 have hl := h.lt
 refine ⟨by rw [Below.heap_alloc _ _ _ (by omega)]; exact h.s, h.m.same (by rw [Below.heap_alloc _ _ _ (by omega)]), h.k.alloc _, h.b.alloc _, fun j h1 h2 => by rw [Below.heap_alloc _ _ _ (by omega)]; exact h.old j h1 h2, h.lt, h.below.alloc (by omega) _, by simp; omega, fun p hp => ?_⟩
 obtain ⟨a, b⟩ := h.x p hp
 exact ⟨by rw [Below.heap_alloc _ _ _ (keeps_lt a)]; exact a, b⟩
theorem AtW.hole {g bm : Nat} {hm hk hb : List Hl} {vf vl vfe ve vk vb : Value} {X : List (Nat × Hl)} {B0 : Nat} {w0 W8 W : World} (h : AtW g bm hm hk hb vf vl vfe ve vk vb X B0 w0 W8 W) (y : Hl) : AtW g bm hm hk hb vf vl vfe ve vk vb [(W.heap.size, y)] B0 w0 W8 (W.alloc (holeO y)) := by
 have h1 := h.alloc (holeO y)
 refine ⟨h1.s, h1.m, h1.k, h1.b, h1.old, h1.lt, h1.below, h1.base, fun p hp => ?_⟩
 obtain rfl : p = (W.heap.size, y) := by simpa using hp
 exact ⟨heap_alloc_new _ _, h.base⟩
theorem AtW.noX {g bm : Nat} {hm hk hb : List Hl} {vf vl vfe ve vk vb : Value} {X : List (Nat × Hl)} {B0 : Nat} {w0 W8 W : World} (h : AtW g bm hm hk hb vf vl vfe ve vk vb X B0 w0 W8 W) : AtW g bm hm hk hb vf vl vfe ve vk vb [] B0 w0 W8 W := ⟨h.s, h.m, h.k, h.b, h.old, h.lt, h.below, h.base, fun p hp => by cases hp⟩
theorem AtW.drew {g bm : Nat} {hm hk hb : List Hl} {vf vl vfe ve vk vb : Value} {X : List (Nat × Hl)} {B0 : Nat} {w0 W8 W : World} (h : AtW g bm hm hk hb vf vl vfe ve vk vb X B0 w0 W8 W) : AtW g bm hm hk hb vf vl vfe ve vk vb X B0 w0 W8 W.drew := ⟨h.s, h.m.same rfl, h.k, h.b, h.old, h.lt, h.below.drew, h.base, h.x⟩
theorem AtW.cells {g bm : Nat} {hm hk hb : List Hl} {vf vl vfe ve vk vb : Value} {X : List (Nat × Hl)} {B0 : Nat} {w0 W8 W : World} (h : AtW g bm hm hk hb vf vl vfe ve vk vb X B0 w0 W8 W) : W.cell? ⟨g, 4, none⟩ = some (.map (some bm)) ∧ W.cell? ⟨g, 5, none⟩ = some vk ∧ W.cell? ⟨g, 6, none⟩ = some vb ∧ W.cell? ⟨g, 7, none⟩ = some (.slice none 0 0) ∧ ∀ j, W.frozen? ⟨g, j, none⟩ = false := by
 simp only [World.cell?, World.frozen?, h.s]
 exact ⟨rfl, rfl, rfl, rfl, fun j => by simp⟩
theorem AtW.xc {g bm : Nat} {hm hk hb : List Hl} {vf vl vfe ve vk vb : Value} {gh : Nat} {y : Hl} {B0 : Nat} {w0 W8 W : World} (h : AtW g bm hm hk hb vf vl vfe ve vk vb [(gh, y)] B0 w0 W8 W) : W.cell? ⟨gh, 0, none⟩ = some (.string y.1) ∧ W.cell? ⟨gh, 1, none⟩ = some (.int .u8 (y.2 : Int)) ∧ g < gh := by
 obtain ⟨a, b⟩ := h.x (gh, y) (by simp)
 simp only [] at a b
 simp only [World.cell?, a, holeO]
 exact ⟨rfl, rfl, b⟩
theorem AtW.put {g bm : Nat} {hm hk hb : List Hl} {vf vl vfe ve vk vb : Value} {X : List (Nat × Hl)} {B0 : Nat} {w0 W8 W : World} (h : AtW g bm hm hk hb vf vl vfe ve vk vb X B0 w0 W8 W) (y : Hl) (hd : ∀ z ∈ hm, z.1 ≠ y.1) (hn : hm.length < 1000000) (hy : y.1.size ≤ 1048576) :
  ∃ w', (Instr.mapUpdate 69 (.map (some bm)) (.string y.1) (.int .i64 (hm.length : Int))).run Tryz.prog W = .ok () w' ∧ AtW g bm (hm ++ [y]) hk hb vf vl vfe ve vk vb X B0 w0 W8 w' := by
 obtain ⟨w', hrun, hM, hg⟩ := h.m.put (by unfold maxLen; omega) y.1 (by unfold maxLen; omega) (hm.length : Int) (wf_small _ hn)
 rw [holeM_snoc hm y hd] at hM
 have hl := h.lt
 have hbs := h.base
 have hkeep : ∀ j, j < W.heap.size → j ≠ bm → w'.heap[j]? = W.heap[j]? := fun j h1 h2 => hg.block j h1 (fun e => h2 (Option.some.inj e))
 have hown : ∀ {e : TypeId} {sz n : Nat} {v : Value} {xs : List Value}, W.ownsRow (g + 1) e sz v n xs → w'.ownsRow (g + 1) e sz v n xs := fun {e sz n v xs} ho => by
  refine ho.kept hg ?_
  cases hb : v.ownBlock with
  | none => exact Or.inl rfl
  | some q =>
   refine Or.inr fun e => ?_
   have h1 := (ho.lt q hb).1
   have h2 := Option.some.inj e
   omega
 refine ⟨w', hrun, ⟨by rw [hkeep g (by omega) (by omega)]; exact h.s, by rw [List.length_append]; exact hM, hown h.k, hown h.b, fun j h1 h2 => by rw [hkeep j (by omega) h2]; exact h.old j h1 h2, h.lt, h.below.grown hg (by omega) (fun q e => by cases e; exact hl.1), Nat.le_trans hbs hg.size, fun p hp => ?_⟩⟩
 obtain ⟨a, b⟩ := h.x p hp
 exact ⟨by rw [hkeep p.1 (keeps_lt a) (by omega)]; exact a, b⟩
theorem AtW.kind {g bm : Nat} {hm hk hb : List Hl} {vf vl vfe ve vk vb : Value} {X : List (Nat × Hl)} {B0 : Nat} {w0 W8 W : World} (h : AtW g bm hm hk hb vf vl vfe ve vk vb X B0 w0 W8 W) (y : Hl) {v' : Value} {w' : World}
  (ho : w'.ownsRow (g + 1) 5 1 v' (hk.length + 1) (kindsV hk ++ [.int .u8 (y.2 : Int)])) (hg : W.grownBy w' vk.ownBlock) : AtW g bm hm (hk ++ [y]) hb vf vl vfe ve v' vb X B0 w0 W8 (w'.setCell ⟨g, 5, none⟩ v') := by
 have hl := h.lt
 have hbs := h.base
 have hne : ∀ j, j ≤ g → vk.ownBlock ≠ some j := fun j hj e => by have := (h.k.lt j e).1; omega
 have hkeep : ∀ j, j ≤ g → w'.heap[j]? = W.heap[j]? := fun j hj => hg.block j (by omega) (fun e => hne j hj e.symm)
 have hb' := other_row h.k hg h.b (by decide)
 refine ⟨?_, ?_, ?_, ownsRow_setCell_other hb' (fun e => by have := (hb'.lt g e).1; omega) _, fun j h1 h2 => ?_, h.lt, (h.below.grown hg (by omega) (fun q e => by have := (h.k.lt q e).1; omega)).setCell (p := ⟨g, 5, none⟩) (by show B0 ≤ g; omega) _, by simp; have := hg.size; omega, fun p hp => ?_⟩
 ·have := heap_setCell_same w' g 5 _ _ v' (by rw [hkeep g (Nat.le_refl _)]; exact h.s)
  exact this
 ·exact h.m.same (by rw [heap_setCell_other _ _ _ _ (show bm ≠ g by omega), hkeep bm (by omega)])
 ·rw [kindsV_snoc, List.length_append]
  exact ownsRow_setCell_other ho (fun e => by have := (ho.lt g e).1; omega) _
 ·rw [heap_setCell_other _ _ _ _ (show j ≠ g by omega), hkeep j (by omega)]; exact h.old j h1 h2
 ·obtain ⟨a, b⟩ := h.x p hp
  have := other_block h.k hg a (by decide)
  exact ⟨by rw [heap_setCell_other _ _ _ _ (show p.1 ≠ g by omega)]; exact this, b⟩
theorem AtW.bind {g bm : Nat} {hm hk hb : List Hl} {vf vl vfe ve vk vb : Value} {X : List (Nat × Hl)} {B0 : Nat} {w0 W8 W : World} (h : AtW g bm hm hk hb vf vl vfe ve vk vb X B0 w0 W8 W) (y : Hl) {v' : Value} {w' : World}
  (ho : w'.ownsRow (g + 1) 41 3 v' (hb.length + 1) (bindsV (hb.map bind0) ++ [.string y.1, .int .i64 0, .int .i64 0])) (hg : W.grownBy w' vb.ownBlock) : AtW g bm hm hk (hb ++ [y]) vf vl vfe ve vk v' X B0 w0 W8 (w'.setCell ⟨g, 6, none⟩ v') := by
 have hl := h.lt
 have hbs := h.base
 have hne : ∀ j, j ≤ g → vb.ownBlock ≠ some j := fun j hj e => by have := (h.b.lt j e).1; omega
 have hkeep : ∀ j, j ≤ g → w'.heap[j]? = W.heap[j]? := fun j hj => hg.block j (by omega) (fun e => hne j hj e.symm)
 have hk' := other_row h.b hg h.k (by decide)
 refine ⟨?_, ?_, ownsRow_setCell_other hk' (fun e => by have := (hk'.lt g e).1; omega) _, ?_, fun j h1 h2 => ?_, h.lt, (h.below.grown hg (by omega) (fun q e => by have := (h.b.lt q e).1; omega)).setCell (p := ⟨g, 6, none⟩) (by show B0 ≤ g; omega) _, by simp; have := hg.size; omega, fun p hp => ?_⟩
 ·have := heap_setCell_same w' g 6 _ _ v' (by rw [hkeep g (Nat.le_refl _)]; exact h.s)
  exact this
 ·exact h.m.same (by rw [heap_setCell_other _ _ _ _ (show bm ≠ g by omega), hkeep bm (by omega)])
 ·rw [binds0_snoc, List.length_append]
  exact ownsRow_setCell_other ho (fun e => by have := (ho.lt g e).1; omega) _
 ·rw [heap_setCell_other _ _ _ _ (show j ≠ g by omega), hkeep j (by omega)]; exact h.old j h1 h2
 ·obtain ⟨a, b⟩ := h.x p hp
  have := other_block h.b hg a (by decide)
  exact ⟨by rw [heap_setCell_other _ _ _ _ (show p.1 ≠ g by omega)]; exact this, b⟩
end Go.Proofs.YtlkheofphafofaaGreatDoor
namespace Go.Proofs.YtlkheofphafofaaGreatDoor
set_option linter.all false
open Go.RowKit

theorem Tinfo_bool : (Tryz.prog.info? 4).map (fun i => (i.zero, i.size, i.bytes)) = some (some (.bool false), 1, 1) := by kernel_rfl
theorem Tmake_bools (n : Nat) (hn : n ≤ 1000000000) (w : World) :
  (Instr.makeSlice 71 (.int .i64 (n : Int)) (.int .i64 (n : Int))).run Tryz.prog w = .ok (.slice (some ⟨w.heap.size, 0, none⟩) n n) (w.alloc (.cells (List.replicate n (Value.bool false)).toArray 4)) := by
 obtain ⟨i, hi, hz, hsz, hb⟩ := info_parts Tinfo_bool
 have hr := run_make (P := Tryz.prog) w 71 4 i (.bool false) Tryz.underlying71 hi hz .i64 .i64 (n : Int) (n : Int) (by omega) (Int.le_refl _) (by rw [hb]; omega) (by omega)
 rw [hsz] at hr
 have e : madeCells (Value.bool false).cells ((n : Int).toNat * 1) = (List.replicate n (Value.bool false)).toArray := by
  apply Array.ext'
  rw [Int.toNat_natCast, Nat.mul_one]
  show (madeCells #[.bool false] n).toList = _
  rw [toList_madeCells_one]
 rw [e] at hr
 rw [hr]
 simp only [Int.toNat_natCast]
def atE (r : RuleM) (l : List Prt) (g bm : Nat) (vf vl vfe ve vk vb vz : Value) : SkE := ⟨r.fnd, l, r.holes, g, vf, vl, vfe, ve, vk, bm, r.holes.length, vb, vz, g + 1⟩
theorem Row.owned {w : World} {B : Nat} {v : Value} {e : TypeId} {size n : Nat} {xs : List Value} (h : w.ownsRow B e size v n xs) : Row w v n size xs := Row.of_owns h
theorem AtW.search {r : RuleM} {l : List Prt} {g bm : Nat} {vf vl vfe ve vk vb : Value} {X : List (Nat × Hl)} {B0 : Nat} {w0 W8 W : World} (h : AtW g bm r.holes r.holes r.holes vf vl vfe ve vk vb X B0 w0 W8 W) (hg : g = W8.heap.size)
  (F : PartRow W8 vf r.fnd) (L : PartRow W8 vl l) (FE : RowInts W8 vfe .i64 (endsL r.fnd)) (LE : RowInts W8 ve .i64 (endsL l)) (M8 : MapIs W8 bm 0 (holeM [])) (hf0 : 0 < r.fnd.length) (hl0 : 0 < l.length) (hn : r.holes.length ≤ 1000000) :
  SkIn (atE r l g bm vf vl vfe ve vk vb (.slice (some ⟨W.heap.size, 0, none⟩) r.holes.length r.holes.length)) (startS r.holes) ((W.alloc (.cells (List.replicate r.holes.length (Value.bool false)).toArray 4)).setCell ⟨g, 7, none⟩ (.slice (some ⟨W.heap.size, 0, none⟩) r.holes.length r.holes.length)) := by
 have hl := h.lt
 have hbs := h.base
 have h1 := h.alloc (.cells (List.replicate r.holes.length (Value.bool false)).toArray 4)
 generalize hvz : (Value.slice (some ⟨W.heap.size, 0, none⟩) r.holes.length r.holes.length) = vz at *
 have hzo : vz.ownBlock = some W.heap.size := by rw [← hvz]; rfl
 have hzr : (W.alloc (.cells (List.replicate r.holes.length (Value.bool false)).toArray 4)).ownsRow (g + 1) 4 1 vz r.holes.length (boundV (startS r.holes)) := by
  rw [← hvz, bound_start]
  exact ⟨by simp, Or.inr ⟨W.heap.size, r.holes.length, _, rfl, hbs, heap_alloc_new _ _, Nat.le_refl _, by unfold maxLen; omega, by simp, by simp⟩⟩
 have hnk : ∀ j, j ≤ g → some j ≠ vk.ownBlock := fun j hj e => by have := (h.k.lt j e.symm).1; omega
 have hnb : ∀ j, j ≤ g → some j ≠ vb.ownBlock := fun j hj e => by have := (h.b.lt j e.symm).1; omega
 have hnz : ∀ j, j < W.heap.size → some j ≠ vz.ownBlock := fun j hj e => by rw [hzo] at e; have := Option.some.inj e; omega
 have hkz : vk.ownBlock = none ∨ vk.ownBlock ≠ vz.ownBlock := by
  cases e : vk.ownBlock with
  | none => exact Or.inl rfl
  | some q => exact Or.inr (hnz q (h.k.lt q e).2)
 have hkb : ∀ q, vk.ownBlock = some q → some q ≠ vb.ownBlock := fun q e e2 => by
  rcases h.k.2 with ⟨hv, _⟩ | ⟨g1, c1, cur1, hv1, _, hh1, _⟩
  ·rw [hv] at e; simp [Value.ownBlock] at e
  ·rcases h.b.2 with ⟨hv, _⟩ | ⟨g2, c2, cur2, hv2, _, hh2, _⟩
   ·rw [hv] at e2; simp [Value.ownBlock] at e2
   ·rw [hv1] at e; rw [hv2] at e2
    simp [Value.ownBlock] at e e2
    subst e; subst e2
    rw [hh1] at hh2
    simp at hh2
 have es : (W.alloc (.cells (List.replicate r.holes.length (Value.bool false)).toArray 4)).heap.size = W.heap.size + 1 := by simp
 generalize hWA : W.alloc (.cells (List.replicate r.holes.length (Value.bool false)).toArray 4) = WA at *
 have hWA' : ∀ j, j < W.heap.size → WA.heap[j]? = W.heap[j]? := fun j hj => by rw [← hWA]; exact Below.heap_alloc _ _ _ hj
 have hset : ∀ j, j ≠ g → (WA.setCell ⟨g, 7, none⟩ vz).heap[j]? = WA.heap[j]? := fun j hj => heap_setCell_other _ _ _ _ hj
 have hss : (WA.setCell ⟨g, 7, none⟩ vz).heap.size = WA.heap.size := by simp
 have hcell := heap_setCell_same WA g 7 _ _ vz h1.s
 generalize WA.setCell ⟨g, 7, none⟩ vz = WF at *
 have own2 : ∀ {e : TypeId} {sz n : Nat} {v : Value} {xs : List Value}, WA.ownsRow (g + 1) e sz v n xs → WF.ownsRow (g + 1) e sz v n xs := fun {e sz n v xs} ho => by
  refine ⟨ho.1, ?_⟩
  rcases ho.2 with h2 | ⟨q, cap, cur, hv, hq, hh, rest⟩
  ·exact Or.inl h2
  ·exact Or.inr ⟨q, cap, cur, hv, hq, by rw [hset q (by omega)]; exact hh, rest⟩
 have hold : ∀ j, j < g → j ≠ bm → WF.heap[j]? = W8.heap[j]? := fun j h1 h2 => by rw [hset j (by omega), hWA' j (by omega)]; exact h.old j h1 h2
 have hrow : ∀ {v : Value} {n sz : Nat} {cs : List Value} {w' : World}, Row W8 v n sz cs → 0 < n → 0 < sz → KeptX (atE r l g bm vf vl vfe ve vk vb vz) WF w' → Row w' v n sz cs := fun {v n sz cs w'} hr hn hs hk => by
  refine Row.same hr fun q hq hlt => ?_
  have hne := Row.no_map hr hn hs M8 q hq
  have hqs : q < WF.heap.size := by omega
  exact ⟨Nat.lt_of_lt_of_le hqs hk.size, by rw [hk.block q hqs (hnb q (by omega)) (hnz q (by omega)), hold q (by omega) hne]⟩
 refine ⟨fun w' hk => ⟨?_, hrow F hf0 (by decide) hk, hrow L hl0 (by decide) hk, hrow FE (by rw [endsL_length]; exact hf0) (by decide) hk, hrow LE (by rw [endsL_length]; exact hl0) (by decide) hk, ?_, ?_⟩, ?_, own2 hzr, by unfold startS; simp [atE], fun k q hq => absurd hq (startS_no _ _ _)⟩
 ·have := hk.block g (by omega) (hnb g (Nat.le_refl _)) (hnz g (by omega))
  show w'.heap[g]? = _
  rw [this, hcell]
  rfl
 ·refine h.m.same ?_
  rw [hk.block bm (by omega) (hnb bm (by omega)) (hnz bm (by omega)), hset bm (by omega), hWA' bm (by omega)]
 ·have hr0 : Row WF vk r.holes.length 1 (kindsV r.holes) := Row.owned (own2 h1.k)
  have hr1 : RowInts WF vk .u8 (kindsI r.holes) := by
   have e : (kindsI r.holes).length = r.holes.length := by unfold kindsI; simp
   unfold RowInts
   rw [e]; exact hr0
  refine Row.same hr1 fun q hq hlt => ⟨Nat.lt_of_lt_of_le hlt hk.size, hk.block q hlt (hkb q hq) ?_⟩
  have hq' : vk.ownBlock = some q := hq
  show some q ≠ vz.ownBlock
  rcases hkz with e | e
  ·rw [hq'] at e; cases e
  ·rw [← hq']; exact e
 ·have := own2 h1.b
  show WF.ownsRow (g + 1) 41 3 vb r.holes.length (bindsV (bindsOf r.holes (startS r.holes)))
  rw [binds_start]
  exact this
theorem AtW.ok {r : RuleM} {l : List Prt} {g bm : Nat} {vf vl vfe ve vk vb : Value} {X : List (Nat × Hl)} {B0 : Nat} {w0 W8 W : World} (h : AtW g bm r.holes r.holes r.holes vf vl vfe ve vk vb X B0 w0 W8 W) (hr : ruleZ r = 0) (hs : SmallR r) (hl : wellB l = true) (sl : SmallL l) (c : Nat) :
  SkOK (atE r l g bm vf vl vfe ve vk vb (.slice (some ⟨W.heap.size, 0, none⟩) r.holes.length c)) := by
 have hbs := h.base
 refine ⟨(rule_holes hr).1, hl, hs.f.1, sl.1, hs.h.1, fun x hx => ⟨(hs.h.2 x hx).2, (hs.h.2 x hx).1⟩, hs.f, sl, ?_, fun e => ?_, fun e => ?_⟩
 ·cases e : vb.ownBlock with
  | none => exact Or.inl e
  | some q =>
   refine Or.inr fun e2 => ?_
   have h1 := (h.b.lt q e).2
   have e3 : some q = some W.heap.size := by rw [← e]; exact e2
   have := Option.some.inj e3
   omega
 ·have := (h.b.lt g e.symm).1; omega
 ·have e3 : some g = some W.heap.size := e
  have := Option.some.inj e3; omega
@[irreducible] def atPost (r : RuleM) (o : Option MSt) (w0 : World) (e : Ending) (w' : World) : Prop :=
 Below w0.heap.size w0 w' ∧ match o with
  | some τ => ∃ vb, e = .returned (.tuple #[vb, .bool true]) ∧ w'.ownsRow w0.heap.size 41 3 vb r.holes.length (bindsV (bindsOf r.holes τ))
  | none => e = .returned (.tuple #[.slice none 0 0, .bool false])
theorem KeptX.toBelow {E : SkE} {w w' : World} {B : Nat} (h : KeptX E w w') (hB : B ≤ w.heap.size) (h1 : ∀ q, E.vb.ownBlock = some q → B ≤ q) (h2 : ∀ q, E.vz.ownBlock = some q → B ≤ q) : Below B w w' :=
 ⟨h.os, h.tape, h.output, h.size, fun k hk => h.block k (by omega) (fun e => by have := h1 k e.symm; omega) (fun e => by have := h2 k e.symm; omega)⟩
end Go.Proofs.YtlkheofphafofaaGreatDoor
