/- Layer 17, the reference: what Inst holds in memory. -/
import Derived.Test.YtmklemelgdilkaaDoorInstPMh
import Derived.Test.YtmklemelgdilkaaDoorAppEqMh
import Derived.Test.YtmklemelgdilkaaDoorGuardPMh
import Derived.Test.YtmklemelgdilkaaDoorKpMMh
import Derived.Test.YtmklemelgdilkaaDoorStepPMh
namespace Go.Proofs.YtmklemelgdilkaaDoor
set_option linter.all false
open Go.RowKit

theorem cell_lt2 {w : World} {b o : Nat} {v : Value} (h : w.cell? ⟨b, o, none⟩ = some v) : b < w.heap.size := by
 apply Classical.byContradiction
 intro hn
 unfold World.cell? at h
 rw [Array.getElem?_eq_none (by simpa using hn)] at h
 cases h
theorem cell_of_heap {w w' : World} {b o : Nat} (h : w'.heap[b]? = w.heap[b]?) : w'.cell? ⟨b, o, none⟩ = w.cell? ⟨b, o, none⟩ := by
 unfold World.cell?
 simp only [h]
theorem row_other {w w' : World} {B B2 : Nat} {e e2 : TypeId} {size n size2 n2 : Nat} {v v2 : Value} {xs xs2 : List Value} (h : w.ownsRow B e size v n xs) (hg : w.grownBy w' v.ownBlock) (h2 : w.ownsRow B2 e2 size2 v2 n2 xs2) (ht : e2 ≠ e) : w'.ownsRow B2 e2 size2 v2 n2 xs2 := by
 obtain ⟨g1, g2⟩ := h2
 refine ⟨g1, ?_⟩
 rcases g2 with g2 | ⟨k, cap, cur, hv, hk, hh, r⟩
 ·exact Or.inl g2
 ·refine Or.inr ⟨k, cap, cur, hv, hk, ?_, r⟩
  rw [hg.block k (keeps_lt hh) ?_, hh]
  intro e1
  rcases h.2 with ⟨rfl, _⟩ | ⟨k1, cap1, cur1, rfl, _, hh1, _⟩
  ·simp [Value.ownBlock] at e1
  ·simp [Value.ownBlock] at e1
   subst e1
   rw [hh] at hh1
   cases hh1
   exact ht rfl
structure InW (w0 : World) (q : Nat) (kp : Nat → Nat) (ka : Option Addr) (hk : Nat) (hw : ByteArray) (M : List PN) (ov fv : Value) (w : World) : Prop where
 o : w.ownsRow w0.heap.size 38 3 ov (M.length + 1) (partsV ((hk, (cntP (M.map (·.1)) : Int), hw) :: M.map (·.1)))
 f : w.ownsRow w0.heap.size 3 1 fv (M.length + 1) (intsV (-1 :: M.map (·.2)))
 k : ∀ c, c < q → ∃ g, ka = some ⟨g, 0, none⟩ ∧ ov.ownBlock ≠ some g ∧ fv.ownBlock ≠ some g ∧ w.cell? ⟨g, c, none⟩ = some (.int .i64 (kp c : Int))
 b : Below w0.heap.size w0 w
theorem InW.below {w0 w w' : World} {q : Nat} {kp : Nat → Nat} {ka : Option Addr} {hk : Nat} {hw : ByteArray} {M : List PN} {ov fv : Value} (h : InW w0 q kp ka hk hw M ov fv w) (hb : Below w.heap.size w w') : InW w0 q kp ka hk hw M ov fv w' :=
 ⟨owns_below h.o hb, owns_below h.f hb, fun c hc => by
  obtain ⟨g, h1, h2, h3, h4⟩ := h.k c hc
  exact ⟨g, h1, h2, h3, by rw [hb.cell (p := ⟨g, c, none⟩) (cell_lt2 h4)]; exact h4⟩, bthen h.b hb⟩
theorem owns_ne {w : World} {B B2 : Nat} {e e2 : TypeId} {size n size2 n2 : Nat} {v v2 : Value} {xs xs2 : List Value} (h : w.ownsRow B e size v n xs) (h2 : w.ownsRow B2 e2 size2 v2 n2 xs2) (ht : e2 ≠ e) {g : Nat} (hg : v.ownBlock = some g) : v2.ownBlock ≠ some g := by
 intro hg2
 rcases h.2 with ⟨hv, _⟩ | ⟨k, cap, cur, hv, _, hh, _⟩
 ·rw [hv] at hg; simp [Value.ownBlock] at hg
 ·rw [hv] at hg; simp [Value.ownBlock] at hg; subst hg
  rcases h2.2 with ⟨hv2, _⟩ | ⟨k2, cap2, cur2, hv2, _, hh2, _⟩
  ·rw [hv2] at hg2; simp [Value.ownBlock] at hg2
  ·rw [hv2] at hg2; simp [Value.ownBlock] at hg2; subst hg2
   rw [hh] at hh2
   simp only [Option.some.injEq, Obj.cells.injEq] at hh2
   exact ht hh2.2.1.symm
theorem intsV_one (xs : List Int) : ∀ u ∈ intsV xs, u.oneCell' = true := by
 intro u hu
 unfold intsV at hu
 obtain ⟨x, _, rfl⟩ := List.mem_map.1 hu
 rfl
theorem intsV_app (a b : List Int) : intsV (a ++ b) = intsV a ++ intsV b := by unfold intsV; rw [List.map_append]
theorem InW.step {w0 w : World} {q : Nat} {kp : Nat → Nat} {ka : Option Addr} {hk : Nat} {hw : ByteArray} {M N : List PN} {ov fv va vb : Value} (h : InW w0 q kp ka hk hw M ov fv w) {us ts : List Nat} (hu : rowsB (M.map (·.1)) = some us) (ht : rowsB (N.map (·.1)) = some ts) {B : Nat}
  (ha : w.ownsRow B 38 3 va N.length (partsV (N.map (·.1)))) (hb : w.ownsRow B 3 1 vb N.length (intsV (N.map (·.2)))) (hB : ∀ g, ov.ownBlock = some g → g < B) (hB2 : ∀ g, fv.ownBlock = some g → g < B) (hlen : M.length + N.length ≤ 1000000000) :
  ∃ g cap w8 w9 v8 v9, ov = .slice (some ⟨g, 0, none⟩) (M.length + 1) cap ∧ M.length + 1 ≤ cap ∧ w.cell? ⟨g, 1, none⟩ = some (.int .i64 (us.length : Int)) ∧ w.frozen? ⟨g, 1, none⟩ = false ∧
   (Builtin.append_ #[23, 23] 23 #[ov, va]).run Tryd.prog (w.setCell ⟨g, 1, none⟩ (.int .i64 ((us.length : Int) + ts.length))) = .ok v8 w8 ∧
   (Builtin.append_ #[27, 27] 27 #[fv, vb]).run Tryd.prog w8 = .ok v9 w9 ∧ InW w0 q kp ka hk hw (M ++ N) v8 v9 w9 := by
 have hc1 : cntP (M.map (·.1)) = us.length := cntP_of hu
 have hc2 : cntP ((M ++ N).map (·.1)) = us.length + ts.length := by rw [List.map_append]; exact cntP_app hu ht
 have hoo := h.o
 rcases hoo.2 with ⟨_, h0⟩ | ⟨g, cap, cur, hv, hg, hh, hnc, hcm, hcs, htk⟩
 ·omega
 subst hv
 have hog : (Value.slice (some ⟨g, 0, none⟩) (M.length + 1) cap).ownBlock = some g := rfl
 have hc : w.cell? ⟨g, 1, none⟩ = some (.int .i64 (us.length : Int)) := by
  rw [hoo.cellAt 1 (by omega), hc1]
  rfl
 have hz : w.frozen? ⟨g, 1, none⟩ = false := by simp [World.frozen?, hh]
 have o7 := owns_set hoo 1 (by rw [partsV_length, List.length_cons]; omega) (.int .i64 ((us.length : Int) + ts.length))
 have e7 : (partsV ((hk, (cntP (M.map (·.1)) : Int), hw) :: M.map (·.1))).set 1 (.int .i64 ((us.length : Int) + ts.length)) = partsV ((hk, (us.length : Int) + ts.length, hw) :: M.map (·.1)) := rfl
 rw [e7] at o7
 have n1 : va.ownBlock ≠ some g := fun e => by
  have h1 := (ha.lt g e).1
  have h2 := hB g hog
  omega
 have n2 := owns_ne hoo h.f (by decide) hog
 have n3 := owns_ne hoo hb (by decide) hog
 have a7 := ownsRow_setCell_other ha (a := ⟨g, 1, none⟩) n1 (.int .i64 ((us.length : Int) + ts.length))
 have f7 := ownsRow_setCell_other h.f (a := ⟨g, 1, none⟩) n2 (.int .i64 ((us.length : Int) + ts.length))
 have b7 := ownsRow_setCell_other hb (a := ⟨g, 1, none⟩) n3 (.int .i64 ((us.length : Int) + ts.length))
 have w7b := h.b.setCell (p := ⟨g, 1, none⟩) hg (.int .i64 ((us.length : Int) + ts.length))
 have k7 : ∀ c, c < q → ∃ g', ka = some ⟨g', 0, none⟩ ∧ g' ≠ g ∧ fv.ownBlock ≠ some g' ∧ (w.setCell ⟨g, 1, none⟩ (.int .i64 ((us.length : Int) + ts.length))).cell? ⟨g', c, none⟩ = some (.int .i64 (kp c : Int)) := fun c hc => by
  obtain ⟨g', h1, h2, h3, h4⟩ := h.k c hc
  have hne : g' ≠ g := fun e => h2 (by rw [e]; rfl)
  exact ⟨g', h1, hne, h3, by rw [World.cell?_setCell_other (h := fun e => hne (congrArg Addr.block e).symm)]; exact h4⟩
 generalize hW7 : w.setCell ⟨g, 1, none⟩ (.int .i64 ((us.length : Int) + ts.length)) = w7 at *
 obtain ⟨v8, w8, r8, o8, g8, p8⟩ := append_eq (P := Tryd.prog) w7 23 23 38 Tryd.underlying23 w0.heap.size Tinfo_part rfl (by decide) _ (M.length + 1) _ o7 va N.length (partsV (N.map (·.1))) (Row.of_owns a7) (partsV_one _) (by omega) (by omega) w7b.size
 have f8 := row_other o7 g8 f7 (by decide)
 have b8 := row_other o7 g8 b7 (by decide)
 have w8b := grown_keeps w7b w7b.size o7 g8
 obtain ⟨v9, w9, r9, f9, g9, p9⟩ := append_eq (P := Tryd.prog) w8 27 27 3 Tryd.underlying27 w0.heap.size Tinfo_int rfl (by decide) fv (M.length + 1) _ f8 vb N.length (intsV (N.map (·.2))) (Row.of_owns b8) (intsV_one _) (by omega) (by omega) w8b.size
 have o9 := row_other f8 g9 o8 (by decide)
 have w9b := grown_keeps w8b w8b.size f8 g9
 refine ⟨g, cap, w8, w9, v8, v9, rfl, hnc, hc, hz, by rw [hW7]; exact r8, r9, ⟨?_, ?_, fun c hc => ?_, w9b⟩⟩
 ·rw [hc2]
  rw [List.map_append, List.length_append, show M.length + N.length + 1 = M.length + 1 + N.length by omega, ← List.cons_append, partsV_append]
  push_cast
  exact o9
 ·rw [List.map_append, List.length_append, show M.length + N.length + 1 = M.length + 1 + N.length by omega, ← List.cons_append, intsV_app]
  exact f9
 ·obtain ⟨g', h1, h2, h3, h4⟩ := k7 c hc
  have l7 := cell_lt2 h4
  have e8 : w8.cell? ⟨g', c, none⟩ = some (.int .i64 (kp c : Int)) := by
   have := g8.block g' l7 (fun e => h2 (by rw [hog] at e; exact (Option.some.inj e)))
   rw [cell_of_heap this]; exact h4
  have l8 := cell_lt2 e8
  have e9 : w9.cell? ⟨g', c, none⟩ = some (.int .i64 (kp c : Int)) := by
   have := g9.block g' l8 (fun e => h3 e.symm)
   rw [cell_of_heap this]; exact e8
  refine ⟨g', h1, ?_, ?_, e9⟩
  ·rcases p8 with e | e
   ·rw [e, hog]; exact fun e2 => h2 (Option.some.inj e2).symm
   ·rw [e]; exact fun e2 => by have := Option.some.inj e2; omega
  ·rcases p9 with e | e
   ·rw [e]; exact h3
   ·rw [e]; exact fun e2 => by have := Option.some.inj e2; omega
end Go.Proofs.YtmklemelgdilkaaDoor
namespace Go.Proofs.YtmklemelgdilkaaDoor
set_option linter.all false
open Go Go.RowKit

structure MkE where
 r : RuleM
 l : List Prt
 bs : List Bnd
 g : Nat
 B : Nat
 T : TypeId
 vh : Value
 vf : Value
 vy : Value
 vl : Value
 ve : Value
 vb : Value
def mkB (E : MkE) (ov fv : Value) (lg : Bool) (W : World) : Prop := W.heap[E.g]? = some (.cells #[.string E.r.nm, .int .u8 (E.r.goal : Int), E.vh, E.vf, E.vy, E.vl, E.ve, E.vb, ov, fv, .bool lg] E.T (0, 0))
theorem mkB.cells {E : MkE} {ov fv : Value} {lg : Bool} {W : World} (h : mkB E ov fv lg W) : W.cell? ⟨E.g, 0, none⟩ = some (.string E.r.nm) ∧ W.cell? ⟨E.g, 1, none⟩ = some (.int .u8 (E.r.goal : Int)) ∧ W.cell? ⟨E.g, 2, none⟩ = some E.vh ∧ W.cell? ⟨E.g, 3, none⟩ = some E.vf ∧ W.cell? ⟨E.g, 4, none⟩ = some E.vy ∧ W.cell? ⟨E.g, 5, none⟩ = some E.vl ∧ W.cell? ⟨E.g, 6, none⟩ = some E.ve ∧ W.cell? ⟨E.g, 7, none⟩ = some E.vb ∧ W.cell? ⟨E.g, 8, none⟩ = some ov ∧ W.cell? ⟨E.g, 9, none⟩ = some fv ∧ W.cell? ⟨E.g, 10, none⟩ = some (.bool lg) ∧ ∀ j, W.frozen? ⟨E.g, j, none⟩ = false := by
 unfold mkB at h
 simp [World.cell?, World.frozen?, h]
structure MkIn (w0 : World) (E : MkE) (out : List PN) (lg : Bool) (ov fv : Value) (W : World) : Prop where
 b : Below w0.heap.size w0 W
 s : mkB E ov fv lg W
 o : W.ownsRow E.B 38 3 ov out.length (partsV (out.map (·.1)))
 f : W.ownsRow E.B 3 1 fv out.length (intsV (out.map (·.2)))
 g0 : w0.heap.size ≤ E.g
 gB : E.g < E.B
 B : E.B ≤ W.heap.size
theorem MkIn.below {w0 W W' : World} {E : MkE} {out : List PN} {lg : Bool} {ov fv : Value} (h : MkIn w0 E out lg ov fv W) (hb : Below W.heap.size W W') : MkIn w0 E out lg ov fv W' :=
 ⟨bthen h.b hb, keeps hb h.s, owns_below h.o hb, owns_below h.f hb, h.g0, h.gB, by have := h.B; have := hb.size; omega⟩
theorem mkB.set {E : MkE} {ov fv : Value} {lg : Bool} {W : World} (h : mkB E ov fv lg W) : (∀ v, mkB E v fv lg (W.setCell ⟨E.g, 8, none⟩ v)) ∧ (∀ v, mkB E ov v lg (W.setCell ⟨E.g, 9, none⟩ v)) ∧ (∀ b, mkB E ov fv b (W.setCell ⟨E.g, 10, none⟩ (.bool b))) := by
 unfold mkB at *
 refine ⟨fun v => ?_, fun v => ?_, fun b => ?_⟩
 ·exact heap_setCell_same W E.g 8 _ _ v h
 ·exact heap_setCell_same W E.g 9 _ _ v h
 ·exact heap_setCell_same W E.g 10 _ _ (.bool b) h
theorem owns_setG {W : World} {B g : Nat} {e : TypeId} {size n : Nat} {v : Value} {xs : List Value} (h : W.ownsRow B e size v n xs) (hg : g < B) (j : Nat) (u : Value) : (W.setCell ⟨g, j, none⟩ u).ownsRow B e size v n xs :=
 ownsRow_setCell_other h (a := ⟨g, j, none⟩) (fun e => by have := (h.lt g e).1; omega) u
theorem MkIn.long {w0 W : World} {E : MkE} {out : List PN} {lg : Bool} {ov fv : Value} (h : MkIn w0 E out lg ov fv W) (b : Bool) : MkIn w0 E out b ov fv (W.setCell ⟨E.g, 10, none⟩ (.bool b)) ∧ KpM E.B E.g W (W.setCell ⟨E.g, 10, none⟩ (.bool b)) :=
 ⟨⟨h.b.setCell (p := ⟨E.g, 10, none⟩) h.g0 _, h.s.set.2.2 b, owns_setG h.o h.gB _ _, owns_setG h.f h.gB _ _, h.g0, h.gB, by simpa using h.B⟩, (KpM.refl _ _ _).setG _ _⟩
theorem MkIn.app {w0 W : World} {E : MkE} {out : List PN} {lg : Bool} {ov fv : Value} (h : MkIn w0 E out lg ov fv W) (x : PN) (C1 C2 : Array Value) (hC1 : C1 = #[.int .u8 (x.1.1 : Int), .int .i64 x.1.2.1, .string x.1.2.2]) (hC2 : C2 = #[.int .i64 x.2]) (hn : out.length ≤ 1000000) :
  ∃ v1 w1 v2 w2, (Builtin.append_ #[23, 23] 23 #[ov, .slice (some ⟨W.heap.size, 0, none⟩) 1 1]).run Tryd.prog (W.alloc (.cells C1 38)) = .ok v1 w1 ∧
   (Builtin.append_ #[27, 27] 27 #[fv, .slice (some ⟨w1.heap.size, 0, none⟩) 1 1]).run Tryd.prog (w1.alloc (.cells C2 3)) = .ok v2 w2 ∧
   MkIn w0 E (out ++ [x]) lg v1 v2 ((w2.setCell ⟨E.g, 8, none⟩ v1).setCell ⟨E.g, 9, none⟩ v2) ∧ KpM E.B E.g W ((w2.setCell ⟨E.g, 8, none⟩ v1).setCell ⟨E.g, 9, none⟩ v2) ∧ mkB E ov fv lg w2 ∧ mkB E v1 fv lg (w2.setCell ⟨E.g, 8, none⟩ v1) := by
 subst hC1 hC2
 have hBs := h.B
 obtain ⟨v1, w1, r1, o1, g1, _⟩ := append_lit_eq (P := Tryd.prog) W #[.int .u8 (x.1.1 : Int), .int .i64 x.1.2.1, .string x.1.2.2] 38 23 23 38 Tryd.underlying23 E.B Tinfo_part rfl (by decide) ov out.length _ h.o 1 1 rfl (Nat.le_refl _) (by intro u hu; simp at hu; rcases hu with rfl | rfl | rfl <;> rfl) (by omega) (by omega) hBs
 have k0 := (KpM.refl E.B E.g W).alloc hBs (.cells #[.int .u8 (x.1.1 : Int), .int .i64 x.1.2.1, .string x.1.2.2] 38)
 have oa := h.o.alloc (.cells #[.int .u8 (x.1.1 : Int), .int .i64 x.1.2.1, .string x.1.2.2] 38)
 have hBa : E.B ≤ (W.alloc (.cells #[.int .u8 (x.1.1 : Int), .int .i64 x.1.2.1, .string x.1.2.2] 38)).heap.size := by simp; omega
 have k1 := k0.grown oa hBa g1
 have f1 := row_other oa g1 (h.f.alloc (.cells #[.int .u8 (x.1.1 : Int), .int .i64 x.1.2.1, .string x.1.2.2] 38)) (by decide)
 have hB1 : E.B ≤ w1.heap.size := by have := k1.size; omega
 obtain ⟨v2, w2, r2, f2, g2, _⟩ := append_lit_eq (P := Tryd.prog) w1 #[.int .i64 x.2] 3 27 27 3 Tryd.underlying27 E.B Tinfo_int rfl (by decide) fv out.length _ f1 1 1 rfl (Nat.le_refl _) (by intro u hu; simp at hu; subst hu; rfl) (by omega) (by omega) hB1
 have k2a := k1.alloc hB1 (.cells #[.int .i64 x.2] 3)
 have hB1a : E.B ≤ (w1.alloc (.cells #[.int .i64 x.2] 3)).heap.size := by simp; omega
 have fa := f1.alloc (.cells #[.int .i64 x.2] 3)
 have k2 := k2a.grown fa hB1a g2
 have o2 := row_other fa g2 (o1.alloc (.cells #[.int .i64 x.2] 3)) (by decide)
 have hB2 : E.B ≤ w2.heap.size := by have := k2.size; omega
 have hgl := keeps_lt h.s
 have s2 : mkB E ov fv lg w2 := by
  unfold mkB
  have e1 : w1.heap[E.g]? = W.heap[E.g]? := by
   rw [g1.block E.g (by simp; omega) (fun e => by have := (oa.lt E.g e.symm).1; have := h.gB; omega), Below.heap_alloc _ _ _ hgl]
  have hl1 : E.g < w1.heap.size := by have := h.gB; omega
  rw [g2.block E.g (by simp; omega) (fun e => by have := (fa.lt E.g e.symm).1; have := h.gB; omega), Below.heap_alloc _ _ _ hl1, e1]
  exact h.s
 have s3 := s2.set.1 v1
 have s4 := s3.set.2.1 v2
 have hb2 : Below w0.heap.size w0 w2 := k2.below h.b (by have := h.g0; have := h.gB; omega) h.g0
 refine ⟨v1, w1, v2, w2, r1, r2, ⟨(hb2.setCell (p := ⟨E.g, 8, none⟩) h.g0 _).setCell (p := ⟨E.g, 9, none⟩) h.g0 _, s4, ?_, ?_, h.g0, h.gB, by simpa using hB2⟩, (k2.setG 8 v1).setG 9 v2, s2, s3⟩
 ·rw [List.length_append, List.map_append, partsV_append]
  exact owns_setG (owns_setG o2 h.gB _ _) h.gB _ _
 ·rw [List.length_append, List.map_append, intsV_app]
  exact owns_setG (owns_setG f2 h.gB _ _) h.gB _ _
end Go.Proofs.YtmklemelgdilkaaDoor
