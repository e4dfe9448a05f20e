/- Layer 17: the program's search is the search in plain Lean. -/
import Derived.Test.YtbhicblkgjgenaaGreatDoorSeekMM
import Derived.Test.YtbhicblkgjgenaaGreatDoorMapSM
import Derived.Test.YtbhicblkgjgenaaGreatDoorRulePM
import Derived.Test.YtbhicblkgjgenaaGreatDoorAppEqM
import Derived.Test.YtbhicblkgjgenaaGreatDoorTermSameM
import Derived.Test.YtbhicblkgjgenaaGreatDoorSeekIM
import Derived.Test.YtbhicblkgjgenaaGreatDoorUpsPM
import Derived.Test.YtbhicblkgjgenaaGreatDoorRuleCheckM
namespace Go.Proofs.YtbhicblkgjgenaaGreatDoor
set_option linter.all false
open Go.RowKit

theorem sk_all (E : SkE) (ok : SkOK E) (h7 : ∀ x ∈ E.hs, 1 ≤ x.2 ∧ x.2 ≤ 7) : ∀ n, PartC E n ∧ KidsC E n
  | 0 => ⟨(fun w σ p i K tv hi hp hil hn ht => by have := (endB_gt (well_rows ok.hf.well) hp).1; omega), (fun w σ p pend i iend K tv J M hi hpe hJ hie hM hn ht => by omega)⟩
  | n + 1 => by
    obtain ⟨h1, h2⟩ := sk_all E ok h7 n
    constructor
    · intro w σ p i K tv hi hp hil hn ht
      cases ho : oneOf E.f E.hs p with
      | some h => exact sk_part_one E ok h7 n w σ p i K tv hi hp hil ht h ho
      | none => exact sk_part_else E ok n h2 w σ p i K tv hi hp hil hn ht ho
    · intro w σ p pend i iend K tv J M hi hpe hJ hie hM hn ht
      by_cases hpp : p = pend
      · subst hpp
        exact sk_kids_end E ok n w σ p i iend K tv hi hpe hie (by have := adv_le (well_rows ok.hl) _ _ _ _ hie hM; omega) ht
      · cases hs : sevOf E.f E.hs p with
        | none => exact sk_kids_one E ok n h1 h2 w σ p pend i iend K tv J M hi hpe hJ hie hM hn ht hpp hs
        | some h => exact sk_kids_sev E ok n h1 h2 w σ p pend i iend K tv J M hi hpe hJ hie hM hn ht hpp h hs
/-- What the search of a rule at a part answers. -/
theorem sk_top (E : SkE) (ok : SkOK E) (h7 : ∀ x ∈ E.hs, 1 ≤ x.2 ∧ x.2 ≤ 7) (w : World) (i : Nat) (tv : Value) (hi : SkIn E (startS E.hs) w) (hil : i < E.l.length) (ht : ThenOK E some tv w) :
    Calls Tryz.prog 40 #[.pointer (some ⟨E.g, 0, none⟩), .int .i64 0, .int .i64 (i : Int), tv] w (seekPost E ((aPart E.f E.l E.hs (fuelZ E.f) 0 i (startS E.hs)).head?) (startS E.hs) w) := by
  have h0 := well_zero ok.hf.well
  have := (sk_all E ok h7 (fuelZ E.f)).1 w (startS E.hs) 0 i some tv hi h0.1 hil (by rw [h0.2]; unfold fuelZ; omega) ht
  rw [(s_all E.f E.l E.hs (fuelZ E.f)).1] at this
  have e : ∀ (l : List MSt), l.findSome? some = l.head? := fun l => by cases l <;> simp [List.findSome?_cons]
  rw [e] at this
  exact this
end Go.Proofs.YtbhicblkgjgenaaGreatDoor
namespace Go.Proofs.YtbhicblkgjgenaaGreatDoor
set_option linter.all false
open Go.RowKit

/-- What an append leaves of blocks of other types. -/
theorem other_block {w w' : World} {B : Nat} {e : TypeId} {size n : Nat} {v : Value} {xs : List Value} (h : w.ownsRow B e size v n xs) (hg : w.grownBy w' v.ownBlock) {g : Nat} {cs : Array Value} {t : TypeId} {fr : Nat × Nat} (hb : w.heap[g]? = some (.cells cs t fr)) (ht : t ≠ e) :
    w'.heap[g]? = some (.cells cs t fr) := by
  rw [hg.block g (keeps_lt hb) ?_, hb]
  intro e1
  rcases h.2 with ⟨rfl, _⟩ | ⟨k, cap, cur, rfl, _, hh, _⟩
  · simp [Value.ownBlock] at e1
  · simp [Value.ownBlock] at e1
    subst e1
    rw [hb] at hh
    cases hh
    exact ht rfl
theorem other_row {w w' : World} {B B2 : Nat} {e e2 : TypeId} {size n size2 n2 : Nat} {v v2 : Value} {xs xs2 : List Value} (h : w.ownsRow B e size v n xs) (hg : w.grownBy w' v.ownBlock) (h2 : w.ownsRow B2 e2 size2 v2 n2 xs2) (ht : e2 ≠ e) : w'.ownsRow B2 e2 size2 v2 n2 xs2 := by
  obtain ⟨g1, g2⟩ := h2
  refine ⟨g1, ?_⟩
  rcases g2 with g2 | ⟨k, cap, cur, hv, hk, hh, r⟩
  · exact Or.inl g2
  · exact Or.inr ⟨k, cap, cur, hv, hk, other_block h hg hh ht, r⟩
theorem Row.same {w w' : World} {v : Value} {n sz : Nat} {cs : List Value} (h : Row w v n sz cs) (hk : ∀ b, v.ownBlock = some b → b < w.heap.size → b < w'.heap.size ∧ w'.heap[b]? = w.heap[b]?) : Row w' v n sz cs := by
  obtain ⟨h1, a, cap, hv, hc, hz, h2⟩ := h
  refine ⟨h1, a, cap, hv, hc, hz, fun hn => ?_⟩
  obtain ⟨b, off, ha, hlt, hcell⟩ := h2 hn
  subst ha
  obtain ⟨k1, k2⟩ := hk b (by rw [hv]; rfl) hlt
  refine ⟨b, off, rfl, k1, fun i hi => ?_⟩
  rw [← hcell i hi]
  simp only [World.cell?, k2]
/-- A row that is not empty lies in no map's block. -/
theorem Row.no_map {w : World} {v : Value} {n sz : Nat} {cs : List Value} (h : Row w v n sz cs) (hn : 0 < n) (hsz : 0 < sz) {bm k : Nat} {M : ByteArray → Option Int} (hm : MapIs w bm k M) : ∀ b, v.ownBlock = some b → b ≠ bm := by
  obtain ⟨h1, a, cap, hv, hc, hz, h2⟩ := h
  obtain ⟨b, off, ha, hlt, hcell⟩ := h2 hn
  subst ha
  intro b' hb' e
  rw [hv] at hb'
  obtain rfl : b = b' := by simpa [Value.ownBlock] using hb'
  subst e
  obtain ⟨D, ⟨es, clock, hb, _⟩, _⟩ := hm
  have h0 : 0 < cs.length := by rw [h1]; exact Nat.mul_pos hn hsz
  have := hcell 0 (Nat.mul_pos hn hsz)
  rw [List.getElem?_eq_getElem h0] at this
  simp [World.cell?, hb] at this
theorem World.ownsRow.base_mono {w : World} {B B' : Nat} {e : TypeId} {size n : Nat} {v : Value} {xs : List Value} (h : w.ownsRow B e size v n xs) (hb : B' ≤ B) : w.ownsRow B' e size v n xs := by
  refine ⟨h.1, ?_⟩
  rcases h.2 with h2 | ⟨g, cap, cur, hv, hg, r⟩
  · exact Or.inl h2
  · exact Or.inr ⟨g, cap, cur, hv, Nat.le_trans hb hg, r⟩
theorem wf_small (n : Nat) (h : n < 1000000) : (Lit.int .i64 (n : Int)).wf = true := by
  have h1 : IntKind.i64.min = -9223372036854775808 := by decide
  have h2 : IntKind.i64.max = 9223372036854775807 := by decide
  simp only [Lit.wf, h1, h2, Bool.and_eq_true, decide_eq_true_eq]
  omega
def bind0 (h : Hl) : Bnd := (h.1, 0, 0)
def kindsV (hs : List Hl) : List Value := (kindsI hs).map (Value.int .u8)
theorem kindsV_snoc (hs : List Hl) (h : Hl) : kindsV (hs ++ [h]) = kindsV hs ++ [.int .u8 (h.2 : Int)] := by simp [kindsV, kindsI]
theorem binds0_snoc (hs : List Hl) (h : Hl) : bindsV ((hs ++ [h]).map bind0) = bindsV (hs.map bind0) ++ [.string h.1, .int .i64 0, .int .i64 0] := by simp [bindsV, bindV, bind0]
def holeO (h : Hl) : Obj := .cells #[.string h.1, .int .u8 (h.2 : Int)] 43 (0, 0)
/-- The seeker, its map, its rows. -/
structure AtW (g bm : Nat) (hm hk hb : List Hl) (vf vl vfe ve vk vb : Value) (X : List (Nat × Hl)) (B0 : Nat) (w0 W8 W : World) : Prop where
  s : W.heap[g]? = some (.cells #[vf, vl, vfe, ve, .map (some bm), vk, vb, .slice none 0 0] 75 (0, 0))
  m : MapIs W bm hm.length (holeM hm)
  k : W.ownsRow (g + 1) 5 1 vk hk.length (kindsV hk)
  b : W.ownsRow (g + 1) 41 3 vb hb.length (bindsV (hb.map bind0))
  old : ∀ j, j < g → j ≠ bm → W.heap[j]? = W8.heap[j]?
  lt : B0 ≤ bm ∧ bm < g
  below : Below B0 w0 W
  base : g + 1 ≤ W.heap.size
  x : ∀ p ∈ X, W.heap[p.1]? = some (holeO p.2) ∧ g < p.1
theorem AtW.alloc {g bm : Nat} {hm hk hb : List Hl} {vf vl vfe ve vk vb : Value} {X : List (Nat × Hl)} {B0 : Nat} {w0 W8 W : World} (h : AtW g bm hm hk hb vf vl vfe ve vk vb X B0 w0 W8 W) (o : Obj) : AtW g bm hm hk hb vf vl vfe ve vk vb X B0 w0 W8 (W.alloc o) := by
  have hbs := h.base
  have hl := h.lt
  refine ⟨by rw [Below.heap_alloc _ _ _ (by omega)]; exact h.s, h.m.same (by rw [Below.heap_alloc _ _ _ (by omega)]), h.k.alloc _, h.b.alloc _, fun j h1 h2 => by rw [Below.heap_alloc _ _ _ (by omega)]; exact h.old j h1 h2, h.lt, h.below.alloc (by omega) _, by simp; omega, fun p hp => ?_⟩
  obtain ⟨a, b⟩ := h.x p hp
  exact ⟨by rw [Below.heap_alloc _ _ _ (keeps_lt a)]; exact a, b⟩
theorem AtW.hole {g bm : Nat} {hm hk hb : List Hl} {vf vl vfe ve vk vb : Value} {X : List (Nat × Hl)} {B0 : Nat} {w0 W8 W : World} (h : AtW g bm hm hk hb vf vl vfe ve vk vb X B0 w0 W8 W) (y : Hl) : AtW g bm hm hk hb vf vl vfe ve vk vb [(W.heap.size, y)] B0 w0 W8 (W.alloc (holeO y)) := by
  have h1 := h.alloc (holeO y)
  refine ⟨h1.s, h1.m, h1.k, h1.b, h1.old, h1.lt, h1.below, h1.base, fun p hp => ?_⟩
  obtain rfl : p = (W.heap.size, y) := by simpa using hp
  exact ⟨heap_alloc_new _ _, h.base⟩
theorem AtW.noX {g bm : Nat} {hm hk hb : List Hl} {vf vl vfe ve vk vb : Value} {X : List (Nat × Hl)} {B0 : Nat} {w0 W8 W : World} (h : AtW g bm hm hk hb vf vl vfe ve vk vb X B0 w0 W8 W) : AtW g bm hm hk hb vf vl vfe ve vk vb [] B0 w0 W8 W := ⟨h.s, h.m, h.k, h.b, h.old, h.lt, h.below, h.base, fun p hp => by cases hp⟩
theorem AtW.drew {g bm : Nat} {hm hk hb : List Hl} {vf vl vfe ve vk vb : Value} {X : List (Nat × Hl)} {B0 : Nat} {w0 W8 W : World} (h : AtW g bm hm hk hb vf vl vfe ve vk vb X B0 w0 W8 W) : AtW g bm hm hk hb vf vl vfe ve vk vb X B0 w0 W8 W.drew := ⟨h.s, h.m.same rfl, h.k, h.b, h.old, h.lt, h.below.drew, h.base, h.x⟩
theorem AtW.cells {g bm : Nat} {hm hk hb : List Hl} {vf vl vfe ve vk vb : Value} {X : List (Nat × Hl)} {B0 : Nat} {w0 W8 W : World} (h : AtW g bm hm hk hb vf vl vfe ve vk vb X B0 w0 W8 W) : W.cell? ⟨g, 4, none⟩ = some (.map (some bm)) ∧ W.cell? ⟨g, 5, none⟩ = some vk ∧ W.cell? ⟨g, 6, none⟩ = some vb ∧ W.cell? ⟨g, 7, none⟩ = some (.slice none 0 0) ∧ ∀ j, W.frozen? ⟨g, j, none⟩ = false := by
  simp only [World.cell?, World.frozen?, h.s]
  exact ⟨rfl, rfl, rfl, rfl, fun j => by simp⟩
theorem AtW.xc {g bm : Nat} {hm hk hb : List Hl} {vf vl vfe ve vk vb : Value} {gh : Nat} {y : Hl} {B0 : Nat} {w0 W8 W : World} (h : AtW g bm hm hk hb vf vl vfe ve vk vb [(gh, y)] B0 w0 W8 W) : W.cell? ⟨gh, 0, none⟩ = some (.string y.1) ∧ W.cell? ⟨gh, 1, none⟩ = some (.int .u8 (y.2 : Int)) ∧ g < gh := by
  obtain ⟨a, b⟩ := h.x (gh, y) (by simp)
  simp only [] at a b
  simp only [World.cell?, a, holeO]
  exact ⟨rfl, rfl, b⟩
/-- A hole's number is laid into the map. -/
theorem AtW.put {g bm : Nat} {hm hk hb : List Hl} {vf vl vfe ve vk vb : Value} {X : List (Nat × Hl)} {B0 : Nat} {w0 W8 W : World} (h : AtW g bm hm hk hb vf vl vfe ve vk vb X B0 w0 W8 W) (y : Hl) (hd : ∀ z ∈ hm, z.1 ≠ y.1) (hn : hm.length < 1000000) (hy : y.1.size ≤ 1048576) :
    ∃ w', (Instr.mapUpdate 71 (.map (some bm)) (.string y.1) (.int .i64 (hm.length : Int))).run Tryz.prog W = .ok () w' ∧ AtW g bm (hm ++ [y]) hk hb vf vl vfe ve vk vb X B0 w0 W8 w' := by
  obtain ⟨w', hrun, hM, hg⟩ := h.m.put (by unfold maxLen; omega) y.1 (by unfold maxLen; omega) (hm.length : Int) (wf_small _ hn)
  rw [holeM_snoc hm y hd] at hM
  have hl := h.lt
  have hbs := h.base
  have hkeep : ∀ j, j < W.heap.size → j ≠ bm → w'.heap[j]? = W.heap[j]? := fun j h1 h2 => hg.block j h1 (fun e => h2 (Option.some.inj e))
  have hown : ∀ {e : TypeId} {sz n : Nat} {v : Value} {xs : List Value}, W.ownsRow (g + 1) e sz v n xs → w'.ownsRow (g + 1) e sz v n xs := fun {e sz n v xs} ho => by
    refine ho.kept hg ?_
    cases hb : v.ownBlock with
    | none => exact Or.inl rfl
    | some q =>
      refine Or.inr fun e => ?_
      have h1 := (ho.lt q hb).1
      have h2 := Option.some.inj e
      omega
  refine ⟨w', hrun, ⟨by rw [hkeep g (by omega) (by omega)]; exact h.s, by rw [List.length_append]; exact hM, hown h.k, hown h.b, fun j h1 h2 => by rw [hkeep j (by omega) h2]; exact h.old j h1 h2, h.lt, h.below.grown hg (by omega) (fun q e => by cases e; exact hl.1), Nat.le_trans hbs hg.size, fun p hp => ?_⟩⟩
  obtain ⟨a, b⟩ := h.x p hp
  exact ⟨by rw [hkeep p.1 (keeps_lt a) (by omega)]; exact a, b⟩
/-- A hole's kind more. -/
theorem AtW.kind {g bm : Nat} {hm hk hb : List Hl} {vf vl vfe ve vk vb : Value} {X : List (Nat × Hl)} {B0 : Nat} {w0 W8 W : World} (h : AtW g bm hm hk hb vf vl vfe ve vk vb X B0 w0 W8 W) (y : Hl) {v' : Value} {w' : World}
    (ho : w'.ownsRow (g + 1) 5 1 v' (hk.length + 1) (kindsV hk ++ [.int .u8 (y.2 : Int)])) (hg : W.grownBy w' vk.ownBlock) : AtW g bm hm (hk ++ [y]) hb vf vl vfe ve v' vb X B0 w0 W8 (w'.setCell ⟨g, 5, none⟩ v') := by
  have hl := h.lt
  have hbs := h.base
  have hne : ∀ j, j ≤ g → vk.ownBlock ≠ some j := fun j hj e => by have := (h.k.lt j e).1; omega
  have hkeep : ∀ j, j ≤ g → w'.heap[j]? = W.heap[j]? := fun j hj => hg.block j (by omega) (fun e => hne j hj e.symm)
  have hb' := other_row h.k hg h.b (by decide)
  refine ⟨?_, ?_, ?_, ownsRow_setCell_other hb' (fun e => by have := (hb'.lt g e).1; omega) _, fun j h1 h2 => ?_, h.lt, (h.below.grown hg (by omega) (fun q e => by have := (h.k.lt q e).1; omega)).setCell (p := ⟨g, 5, none⟩) (by show B0 ≤ g; omega) _, by simp; have := hg.size; omega, fun p hp => ?_⟩
  · have := heap_setCell_same w' g 5 _ _ v' (by rw [hkeep g (Nat.le_refl _)]; exact h.s)
    exact this
  · exact h.m.same (by rw [heap_setCell_other _ _ _ _ (show bm ≠ g by omega), hkeep bm (by omega)])
  · rw [kindsV_snoc, List.length_append]
    exact ownsRow_setCell_other ho (fun e => by have := (ho.lt g e).1; omega) _
  · rw [heap_setCell_other _ _ _ _ (show j ≠ g by omega), hkeep j (by omega)]; exact h.old j h1 h2
  · obtain ⟨a, b⟩ := h.x p hp
    have := other_block h.k hg a (by decide)
    exact ⟨by rw [heap_setCell_other _ _ _ _ (show p.1 ≠ g by omega)]; exact this, b⟩
/-- A hole's bind more. -/
theorem AtW.bind {g bm : Nat} {hm hk hb : List Hl} {vf vl vfe ve vk vb : Value} {X : List (Nat × Hl)} {B0 : Nat} {w0 W8 W : World} (h : AtW g bm hm hk hb vf vl vfe ve vk vb X B0 w0 W8 W) (y : Hl) {v' : Value} {w' : World}
    (ho : w'.ownsRow (g + 1) 41 3 v' (hb.length + 1) (bindsV (hb.map bind0) ++ [.string y.1, .int .i64 0, .int .i64 0])) (hg : W.grownBy w' vb.ownBlock) : AtW g bm hm hk (hb ++ [y]) vf vl vfe ve vk v' X B0 w0 W8 (w'.setCell ⟨g, 6, none⟩ v') := by
  have hl := h.lt
  have hbs := h.base
  have hne : ∀ j, j ≤ g → vb.ownBlock ≠ some j := fun j hj e => by have := (h.b.lt j e).1; omega
  have hkeep : ∀ j, j ≤ g → w'.heap[j]? = W.heap[j]? := fun j hj => hg.block j (by omega) (fun e => hne j hj e.symm)
  have hk' := other_row h.b hg h.k (by decide)
  refine ⟨?_, ?_, ownsRow_setCell_other hk' (fun e => by have := (hk'.lt g e).1; omega) _, ?_, fun j h1 h2 => ?_, h.lt, (h.below.grown hg (by omega) (fun q e => by have := (h.b.lt q e).1; omega)).setCell (p := ⟨g, 6, none⟩) (by show B0 ≤ g; omega) _, by simp; have := hg.size; omega, fun p hp => ?_⟩
  · have := heap_setCell_same w' g 6 _ _ v' (by rw [hkeep g (Nat.le_refl _)]; exact h.s)
    exact this
  · exact h.m.same (by rw [heap_setCell_other _ _ _ _ (show bm ≠ g by omega), hkeep bm (by omega)])
  · rw [binds0_snoc, List.length_append]
    exact ownsRow_setCell_other ho (fun e => by have := (ho.lt g e).1; omega) _
  · rw [heap_setCell_other _ _ _ _ (show j ≠ g by omega), hkeep j (by omega)]; exact h.old j h1 h2
  · obtain ⟨a, b⟩ := h.x p hp
    have := other_block h.b hg a (by decide)
    exact ⟨by rw [heap_setCell_other _ _ _ _ (show p.1 ≠ g by omega)]; exact this, b⟩
end Go.Proofs.YtbhicblkgjgenaaGreatDoor
namespace Go.Proofs.YtbhicblkgjgenaaGreatDoor
set_option linter.all false
open Go.RowKit

theorem Tinfo_bool : (Tryz.prog.info? 4).map (fun i => (i.zero, i.size, i.bytes)) = some (some (.bool false), 1, 1) := by kernel_rfl
theorem Tmake_bools (n : Nat) (hn : n ≤ 1000000000) (w : World) :
    (Instr.makeSlice 73 (.int .i64 (n : Int)) (.int .i64 (n : Int))).run Tryz.prog w = .ok (.slice (some ⟨w.heap.size, 0, none⟩) n n) (w.alloc (.cells (List.replicate n (Value.bool false)).toArray 4)) := by
  obtain ⟨i, hi, hz, hsz, hb⟩ := info_parts Tinfo_bool
  have hr := run_make (P := Tryz.prog) w 73 4 i (.bool false) Tryz.underlying73 hi hz .i64 .i64 (n : Int) (n : Int) (by omega) (Int.le_refl _) (by rw [hb]; omega) (by omega)
  rw [hsz] at hr
  have e : madeCells (Value.bool false).cells ((n : Int).toNat * 1) = (List.replicate n (Value.bool false)).toArray := by
    apply Array.ext'
    rw [Int.toNat_natCast, Nat.mul_one]
    show (madeCells #[.bool false] n).toList = _
    rw [toList_madeCells_one]
  rw [e] at hr
  rw [hr]
  simp only [Int.toNat_natCast]
def atE (r : RuleM) (l : List Prt) (g bm : Nat) (vf vl vfe ve vk vb vz : Value) : SkE := ⟨r.fnd, l, r.holes, g, vf, vl, vfe, ve, vk, bm, r.holes.length, vb, vz, g + 1⟩
/-- A row of the call's own, of so many elements. -/
theorem Row.owned {w : World} {B : Nat} {v : Value} {e : TypeId} {size n : Nat} {xs : List Value} (h : w.ownsRow B e size v n xs) : Row w v n size xs := Row.of_owns h
theorem AtW.search {r : RuleM} {l : List Prt} {g bm : Nat} {vf vl vfe ve vk vb : Value} {X : List (Nat × Hl)} {B0 : Nat} {w0 W8 W : World} (h : AtW g bm r.holes r.holes r.holes vf vl vfe ve vk vb X B0 w0 W8 W) (hg : g = W8.heap.size)
    (F : PartRow W8 vf r.fnd) (L : PartRow W8 vl l) (FE : RowInts W8 vfe .i64 (endsL r.fnd)) (LE : RowInts W8 ve .i64 (endsL l)) (M8 : MapIs W8 bm 0 (holeM [])) (hf0 : 0 < r.fnd.length) (hl0 : 0 < l.length) (hn : r.holes.length ≤ 1000000) :
    SkIn (atE r l g bm vf vl vfe ve vk vb (.slice (some ⟨W.heap.size, 0, none⟩) r.holes.length r.holes.length)) (startS r.holes) ((W.alloc (.cells (List.replicate r.holes.length (Value.bool false)).toArray 4)).setCell ⟨g, 7, none⟩ (.slice (some ⟨W.heap.size, 0, none⟩) r.holes.length r.holes.length)) := by
  have hl := h.lt
  have hbs := h.base
  have h1 := h.alloc (.cells (List.replicate r.holes.length (Value.bool false)).toArray 4)
  generalize hvz : (Value.slice (some ⟨W.heap.size, 0, none⟩) r.holes.length r.holes.length) = vz at *
  have hzo : vz.ownBlock = some W.heap.size := by rw [← hvz]; rfl
  have hzr : (W.alloc (.cells (List.replicate r.holes.length (Value.bool false)).toArray 4)).ownsRow (g + 1) 4 1 vz r.holes.length (boundV (startS r.holes)) := by
    rw [← hvz, bound_start]
    exact ⟨by simp, Or.inr ⟨W.heap.size, r.holes.length, _, rfl, hbs, heap_alloc_new _ _, Nat.le_refl _, by unfold maxLen; omega, by simp, by simp⟩⟩
  have hnk : ∀ j, j ≤ g → some j ≠ vk.ownBlock := fun j hj e => by have := (h.k.lt j e.symm).1; omega
  have hnb : ∀ j, j ≤ g → some j ≠ vb.ownBlock := fun j hj e => by have := (h.b.lt j e.symm).1; omega
  have hnz : ∀ j, j < W.heap.size → some j ≠ vz.ownBlock := fun j hj e => by rw [hzo] at e; have := Option.some.inj e; omega
  have hkz : vk.ownBlock = none ∨ vk.ownBlock ≠ vz.ownBlock := by
    cases e : vk.ownBlock with
    | none => exact Or.inl rfl
    | some q => exact Or.inr (hnz q (h.k.lt q e).2)
  have hkb : ∀ q, vk.ownBlock = some q → some q ≠ vb.ownBlock := fun q e e2 => by
    rcases h.k.2 with ⟨hv, _⟩ | ⟨g1, c1, cur1, hv1, _, hh1, _⟩
    · rw [hv] at e; simp [Value.ownBlock] at e
    · rcases h.b.2 with ⟨hv, _⟩ | ⟨g2, c2, cur2, hv2, _, hh2, _⟩
      · rw [hv] at e2; simp [Value.ownBlock] at e2
      · rw [hv1] at e; rw [hv2] at e2
        simp [Value.ownBlock] at e e2
        subst e; subst e2
        rw [hh1] at hh2
        simp at hh2
  have es : (W.alloc (.cells (List.replicate r.holes.length (Value.bool false)).toArray 4)).heap.size = W.heap.size + 1 := by simp
  generalize hWA : W.alloc (.cells (List.replicate r.holes.length (Value.bool false)).toArray 4) = WA at *
  have hWA' : ∀ j, j < W.heap.size → WA.heap[j]? = W.heap[j]? := fun j hj => by rw [← hWA]; exact Below.heap_alloc _ _ _ hj
  have hset : ∀ j, j ≠ g → (WA.setCell ⟨g, 7, none⟩ vz).heap[j]? = WA.heap[j]? := fun j hj => heap_setCell_other _ _ _ _ hj
  have hss : (WA.setCell ⟨g, 7, none⟩ vz).heap.size = WA.heap.size := by simp
  have hcell := heap_setCell_same WA g 7 _ _ vz h1.s
  generalize WA.setCell ⟨g, 7, none⟩ vz = WF at *
  have own2 : ∀ {e : TypeId} {sz n : Nat} {v : Value} {xs : List Value}, WA.ownsRow (g + 1) e sz v n xs → WF.ownsRow (g + 1) e sz v n xs := fun {e sz n v xs} ho => by
    refine ⟨ho.1, ?_⟩
    rcases ho.2 with h2 | ⟨q, cap, cur, hv, hq, hh, rest⟩
    · exact Or.inl h2
    · exact Or.inr ⟨q, cap, cur, hv, hq, by rw [hset q (by omega)]; exact hh, rest⟩
  have hold : ∀ j, j < g → j ≠ bm → WF.heap[j]? = W8.heap[j]? := fun j h1 h2 => by rw [hset j (by omega), hWA' j (by omega)]; exact h.old j h1 h2
  have hrow : ∀ {v : Value} {n sz : Nat} {cs : List Value} {w' : World}, Row W8 v n sz cs → 0 < n → 0 < sz → KeptX (atE r l g bm vf vl vfe ve vk vb vz) WF w' → Row w' v n sz cs := fun {v n sz cs w'} hr hn hs hk => by
    refine Row.same hr fun q hq hlt => ?_
    have hne := Row.no_map hr hn hs M8 q hq
    have hqs : q < WF.heap.size := by omega
    exact ⟨Nat.lt_of_lt_of_le hqs hk.size, by rw [hk.block q hqs (hnb q (by omega)) (hnz q (by omega)), hold q (by omega) hne]⟩
  refine ⟨fun w' hk => ⟨?_, hrow F hf0 (by decide) hk, hrow L hl0 (by decide) hk, hrow FE (by rw [endsL_length]; exact hf0) (by decide) hk, hrow LE (by rw [endsL_length]; exact hl0) (by decide) hk, ?_, ?_⟩, ?_, own2 hzr, by unfold startS; simp [atE], fun k q hq => absurd hq (startS_no _ _ _)⟩
  · have := hk.block g (by omega) (hnb g (Nat.le_refl _)) (hnz g (by omega))
    show w'.heap[g]? = _
    rw [this, hcell]
    rfl
  · refine h.m.same ?_
    rw [hk.block bm (by omega) (hnb bm (by omega)) (hnz bm (by omega)), hset bm (by omega), hWA' bm (by omega)]
  · have hr0 : Row WF vk r.holes.length 1 (kindsV r.holes) := Row.owned (own2 h1.k)
    have hr1 : RowInts WF vk .u8 (kindsI r.holes) := by
      have e : (kindsI r.holes).length = r.holes.length := by unfold kindsI; simp
      unfold RowInts
      rw [e]; exact hr0
    refine Row.same hr1 fun q hq hlt => ⟨Nat.lt_of_lt_of_le hlt hk.size, hk.block q hlt (hkb q hq) ?_⟩
    have hq' : vk.ownBlock = some q := hq
    show some q ≠ vz.ownBlock
    rcases hkz with e | e
    · rw [hq'] at e; cases e
    · rw [← hq']; exact e
  · have := own2 h1.b
    show WF.ownsRow (g + 1) 41 3 vb r.holes.length (bindsV (bindsOf r.holes (startS r.holes)))
    rw [binds_start]
    exact this
theorem AtW.ok {r : RuleM} {l : List Prt} {g bm : Nat} {vf vl vfe ve vk vb : Value} {X : List (Nat × Hl)} {B0 : Nat} {w0 W8 W : World} (h : AtW g bm r.holes r.holes r.holes vf vl vfe ve vk vb X B0 w0 W8 W) (hr : ruleZ r = 0) (hs : SmallR r) (hl : wellB l = true) (sl : SmallL l) (c : Nat) :
    SkOK (atE r l g bm vf vl vfe ve vk vb (.slice (some ⟨W.heap.size, 0, none⟩) r.holes.length c)) := by
  have hbs := h.base
  refine ⟨(rule_holes hr).1, hl, hs.f.1, sl.1, hs.h.1, fun x hx => ⟨(hs.h.2 x hx).2, (hs.h.2 x hx).1⟩, hs.f, sl, ?_, fun e => ?_, fun e => ?_⟩
  · cases e : vb.ownBlock with
    | none => exact Or.inl e
    | some q => exact Or.inr fun e2 => by
                  have h1 := (h.b.lt q e).2
                  have e3 : some q = some W.heap.size := by rw [← e]; exact e2
                  have := Option.some.inj e3
                  omega
  · have := (h.b.lt g e.symm).1; omega
  · have e3 : some g = some W.heap.size := e
    have := Option.some.inj e3; omega
/-- What match.At answers. -/
@[irreducible] def atPost (r : RuleM) (o : Option MSt) (w0 : World) (e : Ending) (w' : World) : Prop :=
  Below w0.heap.size w0 w' ∧ match o with
    | some τ => ∃ vb, e = .returned (.tuple #[vb, .bool true]) ∧ w'.ownsRow w0.heap.size 41 3 vb r.holes.length (bindsV (bindsOf r.holes τ))
    | none => e = .returned (.tuple #[.slice none 0 0, .bool false])
theorem KeptX.toBelow {E : SkE} {w w' : World} {B : Nat} (h : KeptX E w w') (hB : B ≤ w.heap.size) (h1 : ∀ q, E.vb.ownBlock = some q → B ≤ q) (h2 : ∀ q, E.vz.ownBlock = some q → B ≤ q) : Below B w w' :=
  ⟨h.os, h.tape, h.output, h.size, fun k hk => h.block k (by omega) (fun e => by have := h1 k e.symm; omega) (fun e => by have := h2 k e.symm; omega)⟩
end Go.Proofs.YtbhicblkgjgenaaGreatDoor
namespace Go.Proofs.YtbhicblkgjgenaaGreatDoor
set_option linter.all false

def nmXs : ByteArray := ⟨#[120, 115]⟩
def nmYs : ByteArray := ⟨#[121, 115]⟩
def nmS (c : UInt8) : ByteArray := ⟨#[c]⟩
def fixF : List Prt := [(34, 2, ⟨#[]⟩), (26, 0, nmS 102), (11, 3, ⟨#[]⟩), (26, 0, nmXs), (26, 0, nmS 97), (26, 0, nmYs)]
def fixL : List Prt := [(34, 2, ⟨#[]⟩), (26, 0, nmS 102), (11, 4, ⟨#[]⟩), (26, 0, nmS 98), (26, 0, nmS 97), (26, 0, nmS 99), (26, 0, nmS 97)]
def fixH : List Hl := [(nmXs, 6), (nmYs, 6)]
def fixR : RuleM := ⟨nmS 114, 2, fixH, fixF, fixF⟩
theorem fixM_yes : (atZ fixR fixL 0).map (bindsOf fixH) = some [(nmXs, 3, 4), (nmYs, 5, 7)] := by decide +kernel
theorem fixM_no : atZ fixR fixL 1 = none := by decide +kernel
end Go.Proofs.YtbhicblkgjgenaaGreatDoor
namespace Go.Proofs.YtbhicblkgjgenaaGreatDoor
set_option linter.all false

/-- May a part be what a rule seeks, by its kind and its word alone? -/
def alikeZ (r : RuleM) (p : Prt) : Bool := match r.fnd[0]? with
  | some q => q.1 == 26 || (q.1 == 50 || (q.1 == p.1 && decide (q.2.2 = p.2.2)))
  | none => true
theorem alike_no {r : RuleM} {l : List Prt} {i : Nat} (hi : i < l.length) (h : alikeZ r l[i] = false) : atZ r l i = none := by
  unfold alikeZ at h
  cases hf : r.fnd[0]? with
  | none => rw [hf] at h; cases h
  | some q =>
    rw [hf] at h
    simp only [Bool.or_eq_false_iff, beq_eq_false_iff_ne] at h
    obtain ⟨h1, h2, h3⟩ := h
    have hn : holeOf r.fnd r.holes 0 = none := by
      unfold holeOf
      rw [List.findIdx?_eq_none_iff]
      intro g _
      unfold standsAt
      rw [hf]
      cases isStmt g.2 with
      | true =>
        rw [if_pos rfl]
        cases r.fnd[0 + 1]? with
        | none => rfl
        | some b => simp [h2]
      | false => simp [h1]
    have ha : alikeP r.fnd l 0 i = false := by
      unfold alikeP
      rw [hf, List.getElem?_eq_getElem hi]
      exact h3
    unfold atZ
    split
    · rw [show ((i : Int)).toNat = i by omega]
      unfold fuelZ
      rw [aPart]
      have ho : oneOf r.fnd r.holes 0 = none := by unfold oneOf; rw [hn]
      rw [ho, ha]
      rfl
    · rfl
theorem one_piece {rules : List RuleM} {l : List Prt} (hl : wellB l = true) {i n : Nat} (hi : i < l.length) {r : RuleM} (hr : rules[n]? = some r) :
    oneM rules l i n = match atZ r (piece l i (endB l i)) 0 with
      | some τ => [(n, i, (bindsOf r.holes τ).map fun b => (b.1, b.2.1 + (i : Int), b.2.2 + (i : Int)))]
      | none => [] := by
  unfold oneM
  rw [hr]
  simp only []
  rw [atZ_part hl hi]
  cases h : atZ r (piece l i (endB l i)) 0 with
  | none => rfl
  | some τ => simp only [Option.map_some]; rw [binds_shift _ _ _ (atZ_all h)]
theorem one_no {rules : List RuleM} {l : List Prt} {i n : Nat} (hi : i < l.length) {r : RuleM} (hr : rules[n]? = some r) (h : alikeZ r l[i] = false) : oneM rules l i n = [] := by
  unfold oneM
  rw [hr]
  simp only []
  rw [alike_no hi h]
/-- What is found ahead of the rule n at the part i. -/
def accM (rules : List RuleM) (l : List Prt) (i n : Nat) : List Mch := (List.range i).flatMap (atM rules l) ++ (List.range n).flatMap (oneM rules l i)
theorem accM_step (rules : List RuleM) (l : List Prt) (i n : Nat) : accM rules l i (n + 1) = accM rules l i n ++ oneM rules l i n := by
  unfold accM; rw [List.range_succ, List.flatMap_append, List.append_assoc]; simp
theorem accM_next (rules : List RuleM) (l : List Prt) (i : Nat) : accM rules l (i + 1) 0 = accM rules l i rules.length := by
  unfold accM; rw [List.range_succ, List.flatMap_append]; simp [atM]
theorem accM_all (rules : List RuleM) (l : List Prt) : accM rules l l.length 0 = allM rules l := by
  unfold accM allM; simp
theorem accM_none (rules : List RuleM) (l : List Prt) : accM rules l 0 0 = [] := rfl
end Go.Proofs.YtbhicblkgjgenaaGreatDoor
namespace Go.Proofs.YtbhicblkgjgenaaGreatDoor
set_option linter.all false

def shiftB (d : Nat) (b : Bnd) : Bnd := (b.1, b.2.1 + (d : Int), b.2.2 + (d : Int))
theorem binds_small {r : RuleM} {l : List Prt} {i : Int} {τ : MSt} (h : atZ r l i = some τ) (hl : l.length ≤ 1048576) : (bindsOf r.holes τ).length = r.holes.length ∧ ∀ b ∈ bindsOf r.holes τ, (0 ≤ b.2.1 ∧ b.2.1 ≤ 1048576) ∧ (0 ≤ b.2.2 ∧ b.2.2 ≤ 1048576) := by
  obtain ⟨h1, h2, h3, h4, h5, h6, h7⟩ := atZ_inv h
  refine ⟨by unfold bindsOf; rw [List.length_zipWith, h6, Nat.min_self], fun b hb => ?_⟩
  obtain ⟨k, hk, rfl⟩ := List.mem_iff_getElem.1 hb
  have hk2 : k < r.holes.length := by unfold bindsOf at hk; rw [List.length_zipWith] at hk; omega
  obtain ⟨q, hq, hg⟩ := h7 k hk2
  have hk3 : k < τ.length := by omega
  have e : τ[k] = some q := by rw [List.getElem?_eq_getElem hk3] at hq; exact Option.some.inj hq
  have e2 : (bindsOf r.holes τ)[k] = ((r.holes[k]).1, (q.1 : Int), (q.2 : Int)) := by
    apply Option.some.inj
    rw [← List.getElem?_eq_getElem hk]
    unfold bindsOf
    rw [List.getElem?_zipWith, List.getElem?_eq_getElem hk2, List.getElem?_eq_getElem hk3, e]
    rfl
  rw [e2]
  have he := (endB_gt (well_rows h2) (show i.toNat < l.length by omega)).2
  obtain ⟨g1, g2, g3, _⟩ := hg
  simp only []
  omega
end Go.Proofs.YtbhicblkgjgenaaGreatDoor
namespace Go.Proofs.YtbhicblkgjgenaaGreatDoor
set_option linter.all false

def plainR (f : List Prt) : RuleM := ⟨⟨#[114]⟩, 2, [], f, f⟩
theorem plain_check {l : List Prt} (h : checkB l = true) {i : Nat} (hi : i < l.length) : checkB (piece l i (endB l i)) = true := by
  obtain ⟨hw, hp⟩ := checkB_inv h
  refine check_good (piece_well (well_rows hw) hi).1 fun j hj => ?_
  have hm : (piece l i (endB l i))[j] ∈ l := by
    have := List.getElem_mem hj
    unfold piece at this
    exact List.mem_of_mem_drop (List.mem_of_mem_take this)
  obtain ⟨k, hk, e⟩ := List.mem_iff_getElem.1 hm
  rw [← e]; exact hp k hk
theorem plain_rule {f : List Prt} (h : checkB f = true) : ruleZ (plainR f) = 0 := by
  have h1 : ruleTop (plainR f) = true := by
    unfold ruleTop plainR
    have hn : name ⟨#[114]⟩ = true := by decide +kernel
    simp [h, hn]
  unfold ruleZ
  rw [if_neg (by rw [h1]; decide), if_neg (by unfold plainR; simp [sevN]), if_pos (fun i hi => absurd hi (by simp [plainR]))]
theorem plain_at {l : List Prt} (h : checkB l = true) {i k : Nat} (hi : i < l.length) (hk : k < l.length) : (atZ (plainR (piece l i (endB l i))) l k).isSome = true ↔ piece l i (endB l i) = piece l k (endB l k) := by
  have hp := atZ_plain (r := plainR (piece l i (endB l i))) (plain_rule (plain_check h hi)) rfl (checkB_inv h).1 hk
  constructor
  · intro hs
    obtain ⟨τ, hτ⟩ := Option.isSome_iff_exists.1 hs
    exact (hp.1 τ hτ).2
  · intro e
    obtain ⟨τ, hτ⟩ := hp.2 e
    rw [hτ]; rfl
end Go.Proofs.YtbhicblkgjgenaaGreatDoor
namespace Go.Proofs.YtbhicblkgjgenaaGreatDoor
set_option linter.all false
attribute [local irreducible] Calls
open Go.RowKit

theorem bytes_eq_list {x y : ByteArray} : (x.toList == y.toList) = decide (x = y) := by
  by_cases h : x = y
  · subst h; simp
  · rw [decide_eq_false h, beq_eq_false_iff_ne]; exact pl_bytes_ne h
set_option maxRecDepth 100000 in
set_option maxHeartbeats 8000000 in
theorem find_alike (r : RuleM) (vh vf vb : Value) (p : Prt) (w : World) (hr : RuleIn w r vh vf vb) (h0 : 0 < r.fnd.length) :
    Calls Tryz.prog 87 #[ruleAgg r vh vf vb, .agg #[.int .u8 (p.1 : Int), .int .i64 p.2.1, .string p.2.2]] w fun e w' => e = .returned (.bool (alikeZ r p)) ∧ Below w.heap.size w w' := by
  have HQ : RowKit.Hid (∀ x w', alikeZ r p = x → Below w.heap.size w w' → (fun (e : Ending) w' => e = .returned (.bool (alikeZ r p)) ∧ Below w.heap.size w w') (.returned (.bool x)) w') := Lib.hid fun x w' h hb => ⟨by rw [h], hb⟩
  generalize (fun (e : Ending) w' => e = .returned (.bool (alikeZ r p)) ∧ Below w.heap.size w w') = Q at *
  obtain ⟨ah, ch, rfl, hch⟩ := Row.shape hr.H
  obtain ⟨af, cf, rfl, hcf⟩ := hr.F.slice
  obtain ⟨ab, cb, rfl, hcb⟩ := hr.B.slice
  have HB : RowKit.Hid (Below w.heap.size w ((w.alloc (.cells #[.string r.nm, .int .u8 (r.goal : Int), .slice ah r.holes.length ch, .slice af r.fnd.length cf, .slice ab r.by'.length cb] 25)).alloc (.cells #[.int .u8 (p.1 : Int), .int .i64 p.2.1, .string p.2.2] 48))) := Lib.hid (((Below.refl _ _).alloc (Nat.le_refl _) _).alloc (by simp) _)
  have e3 : ((w.alloc (.cells #[.string r.nm, .int .u8 (r.goal : Int), .slice ah r.holes.length ch, .slice af r.fnd.length cf, .slice ab r.by'.length cb] 25)).alloc (.cells #[.int .u8 (p.1 : Int), .int .i64 p.2.1, .string p.2.2] 48)).cell? ⟨w.heap.size, 3, none⟩ = some (.slice af r.fnd.length cf) := by
    simp only [World.cell?]
    rw [Below.heap_alloc _ _ _ (by simp), heap_alloc_new]; rfl
  have HP : RowKit.Hid (PK ((w.alloc (.cells #[.string r.nm, .int .u8 (r.goal : Int), .slice ah r.holes.length ch, .slice af r.fnd.length cf, .slice ab r.by'.length cb] 25)).alloc (.cells #[.int .u8 (p.1 : Int), .int .i64 p.2.1, .string p.2.2] 48)) (w.heap.size + 1) p) := Lib.hid (by
    have := PK.alloc_new (w.alloc (.cells #[.string r.nm, .int .u8 (r.goal : Int), .slice ah r.holes.length ch, .slice af r.fnd.length cf, .slice ab r.by'.length cb] 25)) p
    simpa using this)
  obtain ⟨b, off, rfl, _, _, hbl, hcell⟩ := hr.F.at HB.out h0
  obtain ⟨d0, d1, d2⟩ := hcell 0 h0
  have HZ : RowKit.Hid (alikeZ r p = (r.fnd[0].1 == 26 || (r.fnd[0].1 == 50 || (r.fnd[0].1 == p.1 && decide (r.fnd[0].2.2 = p.2.2))))) := Lib.hid (by
    unfold alikeZ; rw [List.getElem?_eq_getElem h0])
  generalize r.fnd[0] = q at *
  obtain ⟨qk, qn, qw⟩ := q
  simp only [Nat.zero_mul, Nat.add_zero] at d0 d1 d2 HZ
  have h00 : (0 : Int) < r.fnd.length := by omega
  clear hcell hr
  unfold ruleAgg
  go_enter Tryz.func87, Tryz.ntmps87
  go_upto_region 1 with (fail)
  generalize (w.alloc (.cells #[.string r.nm, .int .u8 (r.goal : Int), .slice ah r.holes.length ch, .slice (some ⟨b, off, none⟩) r.fnd.length cf, .slice ab r.by'.length cb] 25)).alloc (.cells #[.int .u8 (p.1 : Int), .int .i64 p.2.1, .string p.2.2] 48) = W at *
  go_upto_region 2 with (fail)
  have HPK := Lib.hid (HP.out.keep ((Below.refl _ _).alloc (Nat.le_refl _) (.cells #[.int .u8 (qk : Int), .int .i64 qn, .string qw] 48)))
  have HQK := Lib.hid (PK.alloc_new W (qk, qn, qw))
  have HB2 := Lib.hid (HB.out.alloc HB.out.size (.cells #[.int .u8 (qk : Int), .int .i64 qn, .string qw] 48))
  simp only [] at HQK
  clear d0 d1 d2 e3 HP HB
  generalize W.alloc (.cells #[.int .u8 (qk : Int), .int .i64 qn, .string qw] 48) = W2 at *
  have q0 := HQK.out.c0
  have q2 := HQK.out.c2
  have p0 := HPK.out.c0
  have p2 := HPK.out.c2
  simp only [] at q0 q2 p0 p2
  clear HQK HPK
  by_cases h1 : qk = 26
  · subst h1
    have HX := Lib.hid (HQ.out true W2 (by rw [HZ.out]; rfl) HB2.out)
    go_wp2_with fail
    exact HX.out
  have g1 : ((qk : Int) == 26) = false := by rw [beq_eq_false_iff_ne]; omega
  by_cases h2 : qk = 50
  · subst h2
    have HX := Lib.hid (HQ.out true W2 (by rw [HZ.out]; rfl) HB2.out)
    go_wp2_with fail
    exact HX.out
  have g2 : ((qk : Int) == 50) = false := by rw [beq_eq_false_iff_ne]; omega
  have n1 : (qk == 26) = false := by rw [beq_eq_false_iff_ne]; exact h1
  have n2 : (qk == 50) = false := by rw [beq_eq_false_iff_ne]; exact h2
  obtain ⟨pk, pn, pw⟩ := p
  simp only [] at p0 p2 HZ HQ
  by_cases h3 : qk = pk
  · subst h3
    have HX := Lib.hid (HQ.out (decide (qw = pw)) W2 (by rw [HZ.out]; simp [n1, n2]) HB2.out)
    have g5 : (qw.toList == pw.toList) = decide (qw = pw) := bytes_eq_list
    clear h1 h2 n1 n2
    go_wp2_with fail
    exact HX.out
  · have HX := Lib.hid (HQ.out false W2 (by rw [HZ.out]; simp [n1, n2, h3]) HB2.out)
    have g3 : ((qk : Int) == (pk : Int)) = false := by rw [beq_eq_false_iff_ne]; omega
    have g4 : (qk == pk) = false := by rw [beq_eq_false_iff_ne]; exact h3
    clear h1 h2 h3 n1 n2
    go_wp2_with fail
    exact HX.out
/-- What holds at the loop's head of check. -/
def fcRel (rs : List RuleX) (w0 : World) (iv : Value) (wr : World) : Prop := ∃ k : Nat, iv = .int .i64 (k : Int) ∧ k ≤ rs.length ∧ firstErr (rs.map (·.1)) = firstErr ((rs.drop k).map (·.1)) ∧ Below w0.heap.size w0 wr
set_option maxRecDepth 100000 in
set_option maxHeartbeats 8000000 in
theorem find_check (rs : List RuleX) (hs : ∀ x ∈ rs, SmallR x.1) (l : List Prt) (hl : l.length ≤ 1048576) (vr vl : Value) (w : World) (hT : Tabs w) (hM : MaxC w) (hr : RulesIn w vr rs) (hlr : PartRow w vl l) :
    Calls Tryz.prog 56 #[vr, vl] w fun e w' => e = .returned (.int .i64 (findErr (rs.map (·.1)) l)) ∧ Below w.heap.size w w' := by
  have HQ : RowKit.Hid (∀ x w', findErr (rs.map (·.1)) l = x → Below w.heap.size w w' → (fun (e : Ending) w' => e = .returned (.int .i64 (findErr (rs.map (·.1)) l)) ∧ Below w.heap.size w w') (.returned (.int .i64 x)) w') := Lib.hid fun x w' h hb => ⟨by rw [h], hb⟩
  generalize (fun (e : Ending) w' => e = .returned (.int .i64 (findErr (rs.map (·.1)) l)) ∧ Below w.heap.size w w') = Q at *
  have HF : RowKit.Hid (findErr (rs.map (·.1)) l = if wellB l = false then 8 else if 32 < rs.length then 14 else firstErr (rs.map (·.1))) := Lib.hid (by unfold findErr; rw [List.length_map])
  obtain ⟨ar, cr, rfl, hcr⟩ := hr.shape
  obtain ⟨al, cl, rfl, hcl⟩ := hlr.slice
  have CW := Lib.hid (term_Well l (by omega) _ w hlr)
  have HS := Lib.hid hs
  have HR := Lib.hid hr
  have HT := Lib.hid hT
  have HMX := Lib.hid hM
  clear hr hlr hs hT hM
  go_enter Tryz.func56, Tryz.ntmps56
  go_wp2_with fail
  refine CW.out.mono ?_
  rintro e W1 ⟨rfl, hb1⟩
  have HB1 := Lib.hid hb1
  clear hb1 CW
  cases hw : wellB l with
  | false =>
    have HX := Lib.hid (HQ.out 8 W1 (by rw [HF.out, hw]; rfl) HB1.out)
    clear hw
    go_wp2_with fail
    exact HX.out
  | true =>
  have HW := Lib.hid hw
  clear hw
  by_cases h32 : 32 < rs.length
  · have HX := Lib.hid (HQ.out 14 W1 (by rw [HF.out, HW.out, if_neg (by simp), if_pos h32]) HB1.out)
    have g1 : (32 : Int) < rs.length := by omega
    go_wp2_with fail
    exact HX.out
  have HFE : RowKit.Hid (findErr (rs.map (·.1)) l = firstErr (rs.map (·.1))) := Lib.hid (by rw [HF.out, HW.out, if_neg (by simp), if_neg h32])
  have h32' : (rs.length : Int) ≤ 32 := by omega
  clear h32
  go_wp2_with fail
  go_loopw [18] (fun iv wr => fcRel rs W1 iv wr) (fun iv _ => rs.length - (intOf iv).toNat)
  case atStart => exact ⟨0, rfl, Nat.zero_le _, rfl, Below.refl _ _⟩
  case round =>
    obtain ⟨k, rfl, hk, hfe, hb⟩ := hrel
    have HB := Lib.hid hb
    have HE := Lib.hid hfe
    clear hb hfe
    by_cases hlt : k < rs.length
    · obtain ⟨b, off, rfl, _, _, hbl, hcell⟩ := HR.out.at (bthen HB1.out HB.out) (show 0 < rs.length by omega)
      obtain ⟨d0, d1, d2, d3, d4⟩ := hcell k hlt
      have hin := HR.out.E _ (List.getElem_mem hlt)
      have hsm := HS.out _ (List.getElem_mem hlt)
      have HE2 : RowKit.Hid (firstErr (rs.map (·.1)) = if ruleZ (rs[k]).1 = 0 then firstErr ((rs.drop (k + 1)).map (·.1)) else ruleZ (rs[k]).1) := Lib.hid (by
        rw [HE.out, List.drop_eq_getElem_cons hlt, List.map_cons, firstErr])
      generalize rs[k] = x at *
      obtain ⟨r, vh, vf, vb⟩ := x
      simp only [] at d0 d1 d2 d3 d4 hin hsm HE2
      obtain ⟨ah, ch, rfl, hch⟩ := Row.shape hin.H
      obtain ⟨af, cf, rfl, hcf⟩ := hin.F.slice
      obtain ⟨ab, cb, rfl, hcb⟩ := hin.B.slice
      have HBA : RowKit.Hid (Below W1.heap.size W1 (wr.alloc (.cells #[.string r.nm, .int .u8 (r.goal : Int), .slice ah r.holes.length ch, .slice af r.fnd.length cf, .slice ab r.by'.length cb] 25))) := Lib.hid (HB.out.alloc HB.out.size _)
      have CR := Lib.hid (rule_Check r hsm _ _ _ _ (HT.out.below (bthen HB1.out HBA.out)) (HMX.out.below (bthen HB1.out HBA.out)) (hin.below (bthen HB1.out HBA.out)))
      unfold ruleAgg at CR
      clear hcell hin hsm
      go_wp2_with fail
      refine CR.out.mono ?_
      rintro e W3 ⟨rfl, hb3⟩
      have HB3 := Lib.hid (bthen HBA.out hb3)
      clear hb3 CR HBA d0 d1 d2 d3 d4
      by_cases hz : ruleZ r = 0
      · have HX : RowKit.Hid (fcRel rs W1 (.int .i64 ((k : Int) + 1)) W3) := Lib.hid ⟨k + 1, by push_cast; rfl, hlt, by rw [HE2.out, if_pos hz], HB3.out⟩
        rw [hz]
        clear hz
        go_wp2_with fail
        case roundEnd => exact ⟨HX.out, by simp only [intOf]; omega⟩
      · have HX := Lib.hid (HQ.out (ruleZ r) W3 (by rw [HFE.out, HE2.out, if_neg hz]) (bthen HB1.out HB3.out))
        have g1 : (ruleZ r != 0) = true := by rw [bne_iff_ne]; exact hz
        have g2 : (ruleZ r == 0) = false := by rw [beq_eq_false_iff_ne]; exact hz
        clear hz
        generalize ruleZ r = z at *
        go_wp2_with fail
        exact HX.out
    · obtain rfl : k = rs.length := by omega
      have HX := Lib.hid (HQ.out 0 wr (by rw [HFE.out, HE.out, List.drop_length]; rfl) (bthen HB1.out HB.out))
      go_wp2_with fail
      exact HX.out
end Go.Proofs.YtbhicblkgjgenaaGreatDoor
namespace Go.Proofs.YtbhicblkgjgenaaGreatDoor
set_option linter.all false

def pSum : Prt := (37, 2, ⟨#[43]⟩)
def pN (c : UInt8) : Prt := (26, 0, ⟨#[c]⟩)
def fxXY : List Prt := [pSum, pN 120, pN 121]
def fxA : List Prt := [pN 97]
def fxL : List Prt := [pSum, pSum, pN 97, pN 98, pN 97]
def fxH : List Hl := [(⟨#[120]⟩, 1), (⟨#[121]⟩, 1)]
def fxR0 : RuleM := ⟨⟨#[114]⟩, 2, fxH, fxXY, fxXY⟩
def fxR1 : RuleM := ⟨⟨#[115]⟩, 2, [], fxA, fxA⟩
theorem fx_err : findErr [fxR0, fxR1] fxL = 0 := by decide +kernel
theorem fx_all : allM [fxR0, fxR1] fxL = [(0, 0, [(⟨#[120]⟩, 1, 4), (⟨#[121]⟩, 4, 5)]), (0, 1, [(⟨#[120]⟩, 2, 3), (⟨#[121]⟩, 3, 4)]), (1, 2, []), (1, 4, [])] := by decide +kernel
end Go.Proofs.YtbhicblkgjgenaaGreatDoor
