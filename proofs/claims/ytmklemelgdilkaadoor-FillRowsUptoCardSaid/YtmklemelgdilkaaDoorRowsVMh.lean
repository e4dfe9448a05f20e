/- Layer 20: rows of statements as the program makes them: a rule's cells and its list, appended to. -/
import Derived.Test.YtmklemelgdilkaaDoorRowsFMh
import Derived.Test.YtmklemelgdilkaaDoorStepCMh
import Derived.Test.YtmklemelgdilkaaDoorFix20Mh
import Derived.Test.YtmklemelgdilkaaDoorCopEMh
namespace Go.Proofs.YtmklemelgdilkaaDoor
set_option linter.all false
open Go.RowKit

theorem rv_block {w w' : World} {B : Nat} {e : TypeId} {size n : Nat} {v : Value} {xs : List Value} (h : w.ownsRow B e size v n xs) (hg : w.grownBy w' v.ownBlock) {g : Nat} {cs : Array Value} {t : TypeId} {fr : Nat × Nat} (hb : w.heap[g]? = some (.cells cs t fr)) (ht : t ≠ e) :
  w'.heap[g]? = some (.cells cs t fr) := by
 rw [hg.block g (keeps_lt hb) ?_, hb]
 intro e1
 rcases h.2 with ⟨rfl, _⟩ | ⟨k, cap, cur, rfl, _, hh, _⟩
 ·simp [Value.ownBlock] at e1
 ·simp [Value.ownBlock] at e1
  subst e1
  rw [hb] at hh
  cases hh
  exact ht rfl
theorem rv_shape {w : World} {base : Nat} {e : TypeId} {size : Nat} {v : Value} {n : Nat} {xs : List Value} (h : w.ownsRow base e size v n xs) (hn : 0 < n) :
  ∃ g cap, v = .slice (some ⟨g, 0, none⟩) n cap ∧ base ≤ g ∧ g < w.heap.size ∧ n ≤ cap ∧ cap ≤ maxLen ∧ (∀ j, j < n * size → w.cell? ⟨g, j, none⟩ = xs[j]?) := by
 rcases h.2 with ⟨_, h0⟩ | ⟨g, cap, cur, rfl, hb, hg, hnc, hcm, _, _⟩
 ·omega
 ·exact ⟨g, cap, rfl, hb, keeps_lt hg, hnc, hcm, fun j hj => h.cellAt j hj⟩
theorem rv_one (l : List Prt) : ∀ u ∈ partsV l, u.oneCell' = true := by
 intro u hu
 unfold partsV at hu
 obtain ⟨p, _, hp⟩ := List.mem_flatMap.1 hu
 simp [partV] at hp
 rcases hp with rfl | rfl | rfl <;> rfl
theorem rv_app {W w0 : World} {B : Nat} {v : Value} {l : List Prt} (ho : W.ownsRow B 38 3 v l.length (partsV l)) (hb : Below B w0 W) (hB : B ≤ W.heap.size) {src : Value} {m : Nat} {us : List Prt} (hm : us.length = m) (hx : PartRow W src us) (hl : l.length ≤ 1000000) (hm2 : m ≤ 1000000) :
  ∃ v' w', (Builtin.append_ #[23, 23] 23 #[v, src]).run Tryd.prog W = .ok v' w' ∧ w'.ownsRow B 38 3 v' (l ++ us).length (partsV (l ++ us)) ∧ W.grownBy w' v.ownBlock ∧ Below B w0 w' ∧ (v'.ownBlock = v.ownBlock ∨ v'.ownBlock = some W.heap.size) := by
 obtain ⟨v', w', h1, h2, h3, h4⟩ := append_eq (P := Tryd.prog) W 23 23 38 Tryd.underlying23 B Tinfo_part rfl (by decide) v l.length _ ho src us.length (partsV us) hx (rv_one us) (by omega) (by omega) hB
 exact ⟨v', w', h1, by rw [partsV_append, List.length_append]; exact h2, h3, grown_keeps hb hB ho h3, h4⟩
def RuB (W : World) (g : Nat) (fv bv : Value) : Prop := W.heap[g]? = some (.cells #[.string ⟨#[114]⟩, .int .u8 3, .slice none 0 0, fv, bv] 43 (0, 0))
theorem RuB.cells {W : World} {g : Nat} {fv bv : Value} (h : RuB W g fv bv) : W.cell? ⟨g, 0, none⟩ = some (.string ⟨#[114]⟩) ∧ W.cell? ⟨g, 1, none⟩ = some (.int .u8 3) ∧ W.cell? ⟨g, 2, none⟩ = some (.slice none 0 0) ∧ W.cell? ⟨g, 3, none⟩ = some fv ∧ W.cell? ⟨g, 4, none⟩ = some bv ∧ W.frozen? ⟨g, 4, none⟩ = false := by
 unfold RuB at h
 refine ⟨?_, ?_, ?_, ?_, ?_, ?_⟩ <;> simp [World.cell?, World.frozen?, h]
theorem RuB.put {W : World} {g : Nat} {fv bv : Value} (h : RuB W g fv bv) (u : Value) : RuB (W.setCell ⟨g, 4, none⟩ u) g fv u := by
 unfold RuB at *
 rw [heap_setCell_same _ _ _ _ _ _ h]
 rfl
theorem RuB.keep {W W' : World} {g : Nat} {fv bv : Value} (h : RuB W g fv bv) (hb : Below W.heap.size W W') : RuB W' g fv bv := by
 unfold RuB at *
 exact keeps hb h
theorem RuB.other {W : World} {g : Nat} {fv bv : Value} (h : RuB W g fv bv) {k i : Nat} (hk : g ≠ k) (u : Value) : RuB (W.setCell ⟨k, i, none⟩ u) g fv bv := by
 unfold RuB at *
 rw [heap_setCell_other _ _ _ _ hk, h]
theorem rv_by {W w0 : World} {B g : Nat} {fv v : Value} {cs : List ByteArray} (hg : RuB W g fv v) (ho : W.ownsRow B 38 3 v (byL cs).length (partsV (byL cs))) (hb : Below B w0 W) (hB : B ≤ W.heap.size) (hBg : B ≤ g) (hn : cs.length ≤ 1000) (c : ByteArray) {gx : Nat} (hx : PartRow W (.slice (some ⟨gx, 0, none⟩) 2 2) (oneL c)) :
  ∃ v' w' gb cap, v' = .slice (some ⟨gb, 0, none⟩) (3 + 2 * cs.length) cap ∧ (Builtin.append_ #[23, 23] 23 #[v, .slice (some ⟨gx, 0, none⟩) 2 2]).run Tryd.prog W = .ok v' w' ∧ RuB w' g fv v ∧ Below B w0 w' ∧
   (∀ u, ((w'.setCell ⟨g, 4, none⟩ u).cell? ⟨gb, 1, none⟩ = some (.int .i64 (cs.length : Int)) ∧ (w'.setCell ⟨g, 4, none⟩ u).frozen? ⟨gb, 1, none⟩ = false)) ∧
   RuB ((w'.setCell ⟨g, 4, none⟩ v').setCell ⟨gb, 1, none⟩ (.int .i64 ((cs.length : Int) + 1))) g fv v' ∧
   ((w'.setCell ⟨g, 4, none⟩ v').setCell ⟨gb, 1, none⟩ (.int .i64 ((cs.length : Int) + 1))).ownsRow B 38 3 v' (byL (cs ++ [c])).length (partsV (byL (cs ++ [c]))) ∧
   Below B w0 ((w'.setCell ⟨g, 4, none⟩ v').setCell ⟨gb, 1, none⟩ (.int .i64 ((cs.length : Int) + 1))) := by
 obtain ⟨v', w', h1, h2, h3, h4, h5⟩ := rv_app ho hb hB (m := 2) rfl hx (by rw [byL_len]; omega) (by omega)
 have hg' : RuB w' g fv v := rv_block ho h3 hg (by decide)
 obtain ⟨gb, cap, rfl, hBb, hlt, hnc, hcm, hcell⟩ := rv_shape h2 (by rw [List.length_append, byL_len]; omega)
 have hne : gb ≠ g := fun e => by
  subst e
  rcases h2.2 with ⟨hv, _⟩ | ⟨g', cap', cur, hv, _, hh, _⟩
  ·cases hv
  ·simp only [Value.slice.injEq, Option.some.injEq, Addr.mk.injEq, and_true, true_and] at hv
   obtain ⟨rfl, rfl⟩ := hv
   unfold RuB at hg'
   rw [hg'] at hh
   simp only [Option.some.injEq, Obj.cells.injEq] at hh
   exact absurd hh.2.1 (by decide)
 have hlen : (byL cs ++ oneL c).length = 3 + 2 * cs.length := by rw [List.length_append, byL_len]; show 1 + 2 * cs.length + 2 = _; omega
 have ho4 : ∀ u, (w'.setCell ⟨g, 4, none⟩ u).ownsRow B 38 3 (.slice (some ⟨gb, 0, none⟩) (byL cs ++ oneL c).length cap) (byL cs ++ oneL c).length (partsV (byL cs ++ oneL c)) := fun u => by
  rcases h2.2 with ⟨hv, _⟩ | ⟨g', cap', cur, hv, q1, hh, q2, q3, q4, q5⟩
  ·cases hv
  ·simp only [Value.slice.injEq, Option.some.injEq, Addr.mk.injEq, and_true, true_and] at hv
   obtain ⟨rfl, rfl⟩ := hv
   exact ⟨h2.1, Or.inr ⟨gb, cap, cur, rfl, q1, by rw [heap_setCell_other _ _ _ _ hne]; exact hh, q2, q3, q4, q5⟩⟩
 have hs := owns_set (ho4 (.slice (some ⟨gb, 0, none⟩) (byL cs ++ oneL c).length cap)) 1 (by rw [h2.1, hlen]; omega) (.int .i64 ((cs.length : Int) + 1))
 have hby : (partsV (byL cs ++ oneL c)).set 1 (.int .i64 ((cs.length : Int) + 1)) = partsV (byL (cs ++ [c])) := by
  unfold byL
  rw [stmtsL_app, List.cons_append, partsV, partsV, List.flatMap_cons, List.flatMap_cons]
  show ([_, _, _] ++ _ : List Value).set 1 _ = [_, _, _] ++ _
  simp [stmtsL]
 refine ⟨_, w', gb, cap, by rw [hlen], h1, hg', h4, fun u => ⟨?_, ?_⟩, ?_, ?_, ?_⟩
 ·rw [(ho4 u).cellAt 1 (by rw [hlen]; omega)]
  unfold byL
  rfl
 ·exact (ho4 u).frozenAt 1
 ·exact (hg'.put _).other (fun e => hne e.symm) _
 ·rw [hby] at hs
  have e : (byL (cs ++ [c])).length = (byL cs ++ oneL c).length := by rw [hlen, byL_len, List.length_append, List.length_singleton]; omega
  rw [e]; exact hs
 ·exact (h4.setCell (p := ⟨g, 4, none⟩) hBg _).setCell (p := ⟨gb, 1, none⟩) hBb _
end Go.Proofs.YtmklemelgdilkaaDoor
namespace Go.Proofs.YtmklemelgdilkaaDoor
set_option linter.all false
open Go.RowKit

def hdL (z : Int) (cs : List ByteArray) : List Prt := (13, z, ByteArray.empty) :: stmtsL cs
theorem hdL_len (z : Int) (cs : List ByteArray) : (hdL z cs).length = 1 + 2 * cs.length := by unfold hdL; rw [List.length_cons, stmtsL_len]; omega
theorem hdL_app (z : Int) (a b : List ByteArray) : hdL z a ++ stmtsL b = hdL z (a ++ b) := by unfold hdL; rw [List.cons_append, stmtsL_app]
theorem hdL_one (z : Int) (a : List ByteArray) (c : ByteArray) : hdL z a ++ oneL c = hdL z (a ++ [c]) := by
 rw [← hdL_app]; simp [stmtsL]
theorem hdL_by (cs : List ByteArray) : hdL (cs.length : Int) cs = byL cs := rfl
structure Rw3 (w1 : World) (B g : Nat) (fv bv lv wv : Value) (bl l a : List Prt) (W : World) : Prop where
 r : RuB W g fv bv
 b : W.ownsRow B 38 3 bv bl.length (partsV bl)
 l : W.ownsRow B 38 3 lv l.length (partsV l)
 a : W.ownsRow B 38 3 wv a.length (partsV a)
 n1 : bv.ownBlock ≠ lv.ownBlock
 n2 : bv.ownBlock ≠ wv.ownBlock
 n3 : lv.ownBlock ≠ wv.ownBlock
 h : Below B w1 W
 B : B ≤ w1.heap.size
theorem Rw3.below {w1 W W' : World} {B g : Nat} {fv bv lv wv : Value} {bl l a : List Prt} (h : Rw3 w1 B g fv bv lv wv bl l a W) (hb : Below W.heap.size W W') : Rw3 w1 B g fv bv lv wv bl l a W' :=
 ⟨h.r.keep hb, owns_below h.b hb, owns_below h.l hb, owns_below h.a hb, h.n1, h.n2, h.n3, h.h.trans (hb.mono (Nat.le_trans h.B h.h.size)), h.B⟩
theorem own_ne {W : World} {B n : Nat} {e : TypeId} {size : Nat} {v v' : Value} {xs : List Value} (h : W.ownsRow B e size v n xs) (k : v'.ownBlock = some W.heap.size) : v.ownBlock ≠ v'.ownBlock := fun e1 => by
 rw [k] at e1
 have := (h.lt _ e1).2
 omega
theorem Rw3.pushL {w1 W : World} {B g : Nat} {fv bv lv wv : Value} {bl l a : List Prt} (h : Rw3 w1 B g fv bv lv wv bl l a W) {src : Value} {us : List Prt} (hx : PartRow W src us) (hl : l.length ≤ 1000000) (hm : us.length ≤ 1000000) :
  ∃ v' w', (Builtin.append_ #[23, 23] 23 #[lv, src]).run Tryd.prog W = .ok v' w' ∧ Rw3 w1 B g fv bv v' wv bl (l ++ us) a w' := by
 obtain ⟨v', w', h1, h2, h3, h4, h5⟩ := rv_app h.l h.h (Nat.le_trans h.B h.h.size) rfl hx hl hm
 refine ⟨v', w', h1, rv_block h.l h3 h.r (by decide), h.b.kept h3 (Or.inr h.n1), h2, h.a.kept h3 (Or.inr fun e => h.n3 e.symm), ?_, h.n2, ?_, h4, h.B⟩
 ·rcases h5 with e | e
  ·rw [e]; exact h.n1
  ·exact own_ne h.b e
 ·rcases h5 with e | e
  ·rw [e]; exact h.n3
  ·exact fun q => own_ne h.a e q.symm
theorem Rw3.pushA {w1 W : World} {B g : Nat} {fv bv lv wv : Value} {bl l a : List Prt} (h : Rw3 w1 B g fv bv lv wv bl l a W) {src : Value} {us : List Prt} (hx : PartRow W src us) (hl : a.length ≤ 1000000) (hm : us.length ≤ 1000000) :
  ∃ v' w', (Builtin.append_ #[23, 23] 23 #[wv, src]).run Tryd.prog W = .ok v' w' ∧ Rw3 w1 B g fv bv lv v' bl l (a ++ us) w' := by
 obtain ⟨v', w', h1, h2, h3, h4, h5⟩ := rv_app h.a h.h (Nat.le_trans h.B h.h.size) rfl hx hl hm
 refine ⟨v', w', h1, rv_block h.a h3 h.r (by decide), h.b.kept h3 (Or.inr h.n2), h.l.kept h3 (Or.inr h.n3), h2, h.n1, ?_, ?_, h4, h.B⟩
 ·rcases h5 with e | e
  ·rw [e]; exact h.n2
  ·exact own_ne h.b e
 ·rcases h5 with e | e
  ·rw [e]; exact h.n3
  ·exact own_ne h.l e
theorem Rw3.start {w1 W : World} {B g : Nat} {fv bv : Value} {cs : List ByteArray} (hr : RuB W g fv bv) (hb : W.ownsRow B 38 3 bv (byL cs).length (partsV (byL cs))) (hW : Below B w1 W) (hB : B ≤ w1.heap.size) (z1 z2 : Int) :
  Rw3 w1 B g fv bv (.slice (some ⟨W.heap.size, 0, none⟩) 1 1) (.slice (some ⟨W.heap.size + 1, 0, none⟩) 1 1) (byL cs) (hdL z1 []) (hdL z2 []) ((W.alloc (.cells #[.int .u8 13, .int .i64 z1, .string ⟨#[]⟩] 38)).alloc (.cells #[.int .u8 13, .int .i64 z2, .string ⟨#[]⟩] 38)) := by
 have hBW : B ≤ W.heap.size := Nat.le_trans hB hW.size
 have e1 := World.ownsRow_lit (base := B) (e := 38) (size := 3) W #[.int .u8 13, .int .i64 z1, .string ⟨#[]⟩] 1 hBW (by decide) rfl
 have e2 := World.ownsRow_lit (base := B) (e := 38) (size := 3) (W.alloc (.cells #[.int .u8 13, .int .i64 z1, .string ⟨#[]⟩] 38)) #[.int .u8 13, .int .i64 z2, .string ⟨#[]⟩] 1 (by rw [World.size_alloc]; omega) (by decide) rfl
 have hab : Below W.heap.size W ((W.alloc (.cells #[.int .u8 13, .int .i64 z1, .string ⟨#[]⟩] 38)).alloc (.cells #[.int .u8 13, .int .i64 z2, .string ⟨#[]⟩] 38)) := ((Below.refl _ _).alloc (Nat.le_refl _) _).alloc (by simp) _
 refine ⟨hr.keep hab, owns_below hb hab, e1.alloc _, by rw [World.size_alloc] at e2; exact e2, ?_, ?_, ?_, hW.trans (hab.mono hBW), hB⟩
 ·intro e
  have h : W.heap.size < W.heap.size := (hb.lt _ e).2
  omega
 ·intro e
  have h : W.heap.size + 1 < W.heap.size := (hb.lt _ e).2
  omega
 ·intro e
  have h : W.heap.size = W.heap.size + 1 := Option.some.inj e
  omega
theorem by_tail {W : World} {B gb cap : Nat} {cs : List ByteArray} (h : W.ownsRow B 38 3 (.slice (some ⟨gb, 0, none⟩) (byL cs).length cap) (byL cs).length (partsV (byL cs))) (hc : (byL cs).length ≤ cap) (hl : gb < W.heap.size) : PartRow W (.slice (some ⟨gb, 3, none⟩) (2 * cs.length) (cap - 1)) (stmtsL cs) := by
 unfold PartRow
 rw [stmtsL_len]
 have h0 := byL_len cs
 have e : partsV (byL cs) = partV (13, (cs.length : Int), ByteArray.empty) ++ partsV (stmtsL cs) := by unfold byL partsV; rw [List.flatMap_cons]
 refine ⟨by rw [partsV_length, stmtsL_len], some ⟨gb, 3, none⟩, cap - 1, rfl, by omega, (fun e => nomatch e), fun _ => ⟨gb, 3, rfl, hl, fun i hi => ?_⟩⟩
 rw [h.cellAt (3 + i) (by omega), e, List.getElem?_append_right (by simp [partV])]
 simp [partV]
theorem by_tail0 {W : World} {gb : Nat} {cs : List ByteArray} (h : cs = []) (hl : gb < W.heap.size) : PartRow W (.slice (some ⟨gb, 0, none⟩) 0 0) (stmtsL cs) := by
 subst h
 exact ⟨rfl, some ⟨gb, 0, none⟩, 0, rfl, Nat.le_refl _, (fun e => nomatch e), fun h => absurd h (by decide)⟩
theorem one_small {c : ByteArray} (h : c.size ≤ 1) : SmallL (oneL c) := ⟨by unfold oneL; simp, fun p hp => by
 unfold oneL at hp
 simp only [List.mem_cons, List.mem_nil_iff, or_false] at hp
 rcases hp with rfl | rfl
 ·exact ⟨by show 50 < 256; omega, by show ByteArray.empty.size ≤ 1048576; decide⟩
 ·exact ⟨by show 26 < 256; omega, by show c.size ≤ _; omega⟩⟩
theorem by_small {cs : List ByteArray} (h : ∀ c ∈ cs, c.size ≤ 1) (hn : cs.length ≤ 1000) : SmallL (byL cs) := ⟨by rw [byL_len]; omega, fun p hp => by
 unfold byL stmtsL at hp
 rcases List.mem_cons.1 hp with rfl | hp
 ·exact ⟨by show 13 < 256; omega, by show ByteArray.empty.size ≤ 1048576; decide⟩
 ·obtain ⟨c, hc, hm⟩ := List.mem_flatMap.1 hp
  exact (one_small (h c hc)).2 p hm⟩
theorem rows_small {cs : List ByteArray} (h : ∀ c ∈ cs, c.size ≤ 1) (hn : cs.length ≤ 1000) : SmallR (rowsRule cs) :=
 ⟨by show (⟨#[114]⟩ : ByteArray).size ≤ 1048576; decide, by show 3 < 256; omega, ⟨by show 0 ≤ 1048576; omega, fun x hx => by cases hx⟩, one_small (by decide), by_small h hn⟩
theorem hdL_l (n m : Nat) : hdL (1 + (n : Int) + (m : Int)) (([] ++ List.replicate n (⟨#[112]⟩ : ByteArray) ++ [⟨#[122]⟩]) ++ List.replicate m ⟨#[113]⟩) = byL (List.replicate n ⟨#[112]⟩ ++ ⟨#[122]⟩ :: List.replicate m ⟨#[113]⟩) := by
 have e : ([] ++ List.replicate n (⟨#[112]⟩ : ByteArray) ++ [⟨#[122]⟩]) ++ List.replicate m ⟨#[113]⟩ = List.replicate n ⟨#[112]⟩ ++ ⟨#[122]⟩ :: List.replicate m ⟨#[113]⟩ := by simp
 rw [e, ← hdL_by]
 congr 1
 simp
 omega
theorem hdL_a (n m : Nat) (cs : List ByteArray) : hdL ((cs.length : Int) + (n : Int) + (m : Int)) (([] ++ List.replicate n (⟨#[112]⟩ : ByteArray) ++ cs) ++ List.replicate m ⟨#[113]⟩) = byL (List.replicate n ⟨#[112]⟩ ++ cs ++ List.replicate m ⟨#[113]⟩) := by
 rw [List.nil_append, ← hdL_by]
 congr 1
 simp
 omega
theorem sizes_pq {cs : List ByteArray} (h : ∀ c ∈ cs, c.size ≤ 1) (n m : Nat) : ∀ c ∈ List.replicate n (⟨#[112]⟩ : ByteArray) ++ cs ++ List.replicate m ⟨#[113]⟩, c.size ≤ 1 := fun c hc => by
 simp only [List.mem_append] at hc
 rcases hc with (hc | hc) | hc
 ·rw [(List.mem_replicate.1 hc).2]; decide
 ·exact h c hc
 ·rw [(List.mem_replicate.1 hc).2]; decide
theorem rows_held {W : World} {cs : List ByteArray} {g1 gb bcap : Nat} (hz : PartRow W (.slice (some ⟨g1, 0, none⟩) 2 2) (oneL ⟨#[122]⟩)) (hb : PartRow W (.slice (some ⟨gb, 0, none⟩) (byL cs).length bcap) (byL cs)) :
  RulesIn (W.alloc (.cells #[.string ⟨#[114]⟩, .int .u8 3, .slice none 0 0, .slice (some ⟨g1, 0, none⟩) 2 2, .slice (some ⟨gb, 0, none⟩) (byL cs).length bcap] 43)) (.slice (some ⟨W.heap.size, 0, none⟩) 1 1) [(rowsRule cs, .slice none 0 0, .slice (some ⟨g1, 0, none⟩) 2 2, .slice (some ⟨gb, 0, none⟩) (byL cs).length bcap)] := by
 have hB := (Below.refl W.heap.size W).alloc (Nat.le_refl _) (.cells #[.string ⟨#[114]⟩, .int .u8 3, .slice none 0 0, .slice (some ⟨g1, 0, none⟩) 2 2, .slice (some ⟨gb, 0, none⟩) (byL cs).length bcap] 43)
 refine ⟨lit_rowG W #[.string ⟨#[114]⟩, .int .u8 3, .slice none 0 0, .slice (some ⟨g1, 0, none⟩) 2 2, .slice (some ⟨gb, 0, none⟩) (byL cs).length bcap] 43 1 5 rfl, fun x hx => ?_⟩
 obtain rfl := List.mem_singleton.1 hx
 exact ⟨Row.of_owns (World.ownsRow_nil _ 0 51 2), hz.below hB, hb.below hB⟩
theorem pick_held (W : World) (a : Int) : PicksIn (W.alloc (.cells #[.int .i64 0, .int .i64 a, .slice none 0 0] 35)) (.slice (some ⟨W.heap.size, 0, none⟩) 1 1) [((0, a, []), .slice none 0 0)] := by
 refine ⟨lit_rowG W #[.int .i64 0, .int .i64 a, .slice none 0 0] 35 1 3 rfl, fun x hx => ?_⟩
 obtain rfl := List.mem_singleton.1 hx
 exact Row.of_owns (World.ownsRow_nil _ 0 53 3)
theorem at_one {X Y : List ByteArray} (z : ByteArray) : piece (byL (X ++ z :: Y)) (1 + 2 * X.length) (1 + 2 * X.length + 2) = oneL z := by
 unfold piece
 rw [drop_by (X ++ z :: Y) X.length (by simp), List.drop_left]
 rw [show 1 + 2 * X.length + 2 - (1 + 2 * X.length) = 2 by omega]
 rfl
theorem piece_row {W : World} {g cap : Nat} {L : List Prt} (h : PartRow W (.slice (some ⟨g, 0, none⟩) L.length cap) L) {a b : Nat} (hab : a < b) (hb : b ≤ L.length) : PartRow W (.slice (some ⟨g, a * 3, none⟩) (b - a) (cap - a)) (piece L a b) := by
 obtain ⟨a0, c0, hv, hc⟩ := PartRow.slice h
 simp only [Value.slice.injEq] at hv
 obtain ⟨rfl, -, rfl⟩ := hv
 obtain ⟨p, c, h1, h2⟩ := slice_piece W _ L h a b (by omega) hb
 have e := h1 W
 rw [run_slice_lh W _ _ _ _ elem_part .i64 .i64 (a : Int) (b : Int) (by omega) (by omega) (by omega), size_part_run] at e
 simp only [Result.andThen, sliced, Int.toNat_natCast] at e
 rw [if_neg (by omega)] at e
 simp only [Option.map_some, Addr.add] at e
 injection e with e1 e2
 simp only [Value.slice.injEq] at e1
 obtain ⟨rfl, -, rfl⟩ := e1
 have e2 : (⟨g, 0, none⟩ : Addr).add (a * 3) = ⟨g, a * 3, none⟩ := by
  simp [Addr.add]
  omega
 simp only [Addr.add] at e2
 rw [e2] at h2
 exact h2
end Go.Proofs.YtmklemelgdilkaaDoor
