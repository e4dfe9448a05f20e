/- 'append' as a run equation that a walk takes by itself. -/
import Derived.Test.YtmklemelgdilkaaDoorCoreMh
import Derived.Maps.AppendAt
import Derived.Test.YtmklemelgdilkaaDoorStepPMh
namespace Go.Proofs.YtmklemelgdilkaaDoor
set_option linter.all false
open Go Go.RowKit

section
variable {P : Program}
theorem append_eq (w : World) (t ty e : TypeId) (ht : P.underlying t = some (.slice e)) (base : Nat) {z : Value} {size bytes : Nat} (hinfo : (P.info? e).map (fun i => (i.zero, i.size, i.bytes)) = some (some z, size, bytes)) (hzs : z.cells.size = size) (hsz : 0 < size)
  (v : Value) (n : Nat) (xs : List Value) (hown : w.ownsRow base e size v n xs) (src : Value) (m : Nat) (news : List Value) (hrow : Row w src m size news) (h1 : ∀ u ∈ news, u.oneCell' = true)
  (h63 : n + m ≤ 70368744177664) (hbytes : (n + m) * bytes ≤ 140737488355328) (hbase : base ≤ w.heap.size) :
  ∃ v' w', (Builtin.append_ #[t, t] ty #[v, src]).run P w = .ok v' w' ∧ w'.ownsRow base e size v' (n + m) (xs ++ news) ∧ w.grownBy w' v.ownBlock ∧ (v'.ownBlock = v.ownBlock ∨ v'.ownBlock = some w.heap.size) := by
 obtain ⟨i, hi, hz0, hz1, hz2⟩ := info_parts hinfo
 obtain ⟨hl, ad, cap, rfl, hc, hnone, hsome⟩ := hrow
 cases ad with
 | none =>
  have hc0 := hnone rfl
  subst hc0
  obtain rfl : m = 0 := by omega
  obtain rfl : news = [] := List.eq_nil_of_length_eq_zero (by simpa using hl)
  exact ⟨v, w, run_append_owned_none (P := P) (w := w) base t ty e i size ht hi v n xs hown, by simpa using hown, World.grownBy.refl _ _, Or.inl rfl⟩
 | some ad =>
  obtain ⟨v', w', g1, g2, g3, _, g5⟩ := run_append_own_at (P := P) w base t ty e i z size bytes ht hi hz0 hz1 hz2 hzs hsz v n xs hown ad m cap news hl (by
   intro j u hj
   have hjl : j < news.length := (List.getElem?_eq_some_iff.1 hj).1
   have hm : 0 < m := by
    rcases Nat.eq_zero_or_pos m with e | e
    ·subst e; simp at hl; rw [hl] at hjl; simp at hjl
    ·exact e
   obtain ⟨b, off, he, hbl, hcell⟩ := hsome hm
   cases he
   have e1 : (⟨b, off, none⟩ : Addr).add j = ⟨b, off + j, none⟩ := by simp [Addr.add]
   rw [e1, hcell j (by omega)]
   exact hj) h1 (by unfold maxLen; omega) hbytes hbase
  exact ⟨v', w', g1, g2, g3, g5⟩
theorem append_lit_eq (w0 : World) (C : Array Value) (e' t ty e : TypeId) (ht : P.underlying t = some (.slice e)) (base : Nat) {z : Value} {size bytes : Nat} (hinfo : (P.info? e).map (fun i => (i.zero, i.size, i.bytes)) = some (some z, size, bytes)) (hzs : z.cells.size = size) (hsz : 0 < size)
  (v : Value) (n : Nat) (xs : List Value) (hown : w0.ownsRow base e size v n xs) (m c : Nat) (hl : C.size = m * size) (hmc : m ≤ c) (h1 : ∀ u ∈ C.toList, u.oneCell' = true)
  (h63 : n + m ≤ 70368744177664) (hbytes : (n + m) * bytes ≤ 140737488355328) (hbase : base ≤ w0.heap.size) :
  ∃ v' w', (Builtin.append_ #[t, t] ty #[v, .slice (some ⟨w0.heap.size, 0, none⟩) m c]).run P (w0.alloc (.cells C e')) = .ok v' w' ∧ w'.ownsRow base e size v' (n + m) (xs ++ C.toList) ∧ (w0.alloc (.cells C e')).grownBy w' v.ownBlock ∧ (v'.ownBlock = v.ownBlock ∨ v'.ownBlock = some (w0.heap.size + 1)) := by
 obtain ⟨v', w', g1, g2, g3, g4⟩ := append_eq (P := P) (w0.alloc (.cells C e')) t ty e ht base hinfo hzs hsz v n xs (hown.alloc _) (.slice (some ⟨w0.heap.size, 0, none⟩) m c) m C.toList
  ⟨by simpa using hl, some ⟨w0.heap.size, 0, none⟩, c, rfl, hmc, by simp, fun _ => ⟨w0.heap.size, 0, rfl, by simp, fun i _ => by rw [Nat.zero_add, World.cell?_alloc_at _ _ _ _ rfl]; simp⟩⟩ h1 h63 hbytes (by simp; omega)
 exact ⟨v', w', g1, g2, g3, by simpa using g4⟩
theorem wpList_append_run {w w' : World} {ops : Array Oper} {rest : List Oper} {o : Oper} {a : Act} {Q : Exit → Act → World → Prop} (hgd : o.guard = none) (s x : Operand) (t u : TypeId) {v src v' : Value} {ty : TypeId}
  (hrun : (Builtin.append_ #[t, u] ty #[v, src]).run P w = .ok v' w') (ho : o.op = .call { callee := .builtin .append, args := #[s, x], argTypes := #[t, u] }) (hty : o.type = ty)
  (hs : a.eval s = v) (hx : a.eval x = src) (h : wpList P ops Q rest (a.put o.dst v') w') : wpList P ops Q (o :: rest) a w := by
 subst hty
 refine wpList_plain hgd fun K hK => ?_
 unfold Oper.wp
 simp [execOp, ho, resolve, invoke, builtin, hs, hx, hrun, Result.andThen]
 exact hK _ _ h
end
theorem grown_keeps {w0 w w' : World} {B : Nat} {v : Value} {e : TypeId} {size n : Nat} {xs : List Value} (hb : Below B w0 w) (hB : B ≤ w.heap.size) (hown : w.ownsRow B e size v n xs) (hg : w.grownBy w' v.ownBlock) : Below B w0 w' :=
 hb.grown hg hB (fun k hk => (hown.lt k hk).1)
theorem owns_set {w : World} {B g : Nat} {e : TypeId} {size n cap : Nat} {xs : List Value} (h : w.ownsRow B e size (.slice (some ⟨g, 0, none⟩) n cap) n xs) (j : Nat) (hj : j < xs.length) (u : Value) : (w.setCell ⟨g, j, none⟩ u).ownsRow B e size (.slice (some ⟨g, 0, none⟩) n cap) n (xs.set j u) := by
 obtain ⟨h1, h2⟩ := h
 refine ⟨by rw [List.length_set]; exact h1, Or.inr ?_⟩
 rcases h2 with ⟨hv, _⟩ | ⟨g', cap', cur, hv, hg, hh, hnc, hcm, hcs, htk⟩
 ·cases hv
 ·simp only [Value.slice.injEq, Option.some.injEq, Addr.mk.injEq, and_true, true_and] at hv
  obtain ⟨rfl, rfl⟩ := hv
  refine ⟨g, cap, cur.setIfInBounds j u, rfl, hg, heap_setCell_same _ _ _ _ _ _ hh, hnc, hcm, by rw [Array.size_setIfInBounds]; exact hcs, ?_⟩
  rw [Array.toList_setIfInBounds, List.take_set, htk]
end Go.Proofs.YtmklemelgdilkaaDoor
namespace Go.Proofs.YtmklemelgdilkaaDoor
set_option linter.all false
open Go.RowKit

def intsR (l : List Int) : List Value := l.map (Value.int .i64)
theorem intsR_snoc (l : List Int) (x : Int) : intsR (l ++ [x]) = intsR l ++ [.int .i64 x] := by simp [intsR]
def litB (x : Int) : Obj := .cells #[.int .i64 x] 3 (0, 0)
structure UpW (B go : Nat) (w0 : World) (E os cs : List Int) (vo vl : Value) (L : List (Nat × Obj)) (W : World) : Prop where
 opn : W.ownsRow B 3 1 vo os.length (intsR os)
 lft : W.ownsRow B 3 1 vl cs.length (intsR cs)
 out : W.heap[go]? = some (.cells (intsR E).toArray 3 (0, 0))
 below : Below B w0 W
 base : B ≤ W.heap.size
 go0 : B ≤ go
 o1 : vo.ownBlock ≠ some go
 l1 : vl.ownBlock ≠ some go
 ol : ∀ g, vo.ownBlock = some g → vl.ownBlock ≠ some g
 lits : ∀ p ∈ L, W.heap[p.1]? = some p.2 ∧ vo.ownBlock ≠ some p.1 ∧ vl.ownBlock ≠ some p.1 ∧ p.1 ≠ go
theorem UpW.build {B go : Nat} {w0 W : World} {E os cs : List Int} {vo vl : Value} {L : List (Nat × Obj)} (h : UpW B go w0 E os cs vo vl L W) (x : Obj) :
  UpW B go w0 E os cs vo vl ((W.heap.size, x) :: L) (W.alloc x) := by
 have hgo := keeps_lt h.out
 refine ⟨h.opn.alloc _, h.lft.alloc _, by rw [Below.heap_alloc _ _ _ hgo]; exact h.out, h.below.alloc h.base _, by simp; have := h.base; omega, h.go0, h.o1, h.l1, h.ol, fun p hp => ?_⟩
 rcases List.mem_cons.1 hp with rfl | hp
 ·refine ⟨heap_alloc_new _ _, fun e => ?_, fun e => ?_, by simp only; omega⟩
  ·have := (h.opn.lt _ e).2; simp only at this; omega
  ·have := (h.lft.lt _ e).2; simp only at this; omega
 ·obtain ⟨a, b, c, d⟩ := h.lits p hp
  exact ⟨by rw [Below.heap_alloc _ _ _ (keeps_lt a)]; exact a, b, c, d⟩
theorem lit_row {W : World} {k : Nat} {x : Int} (h : W.heap[k]? = some (litB x)) : Row W (.slice (some ⟨k, 0, none⟩) 1 1) 1 1 [.int .i64 x] :=
 ⟨rfl, some ⟨k, 0, none⟩, 1, rfl, Nat.le_refl _, by simp, fun _ => ⟨k, 0, rfl, keeps_lt h, fun i hi => by
  obtain rfl : i = 0 := by omega
  simp [World.cell?, h, litB]⟩⟩
theorem UpW.appO {B go : Nat} {w0 W : World} {E os cs : List Int} {vo vl : Value} {L : List (Nat × Obj)} (h : UpW B go w0 E os cs vo vl L W) (k : Nat) (x : Int) (hk : (k, litB x) ∈ L) (hL : os.length ≤ 1000000000) :
  ∃ v' w', (Builtin.append_ #[27, 27] 27 #[vo, .slice (some ⟨k, 0, none⟩) 1 1]).run Tryd.prog W = .ok v' w' ∧ UpW B go w0 E (os ++ [x]) cs v' vl L w' := by
 obtain ⟨hk1, _⟩ := h.lits _ hk
 obtain ⟨v', w', h1, h2, h3, h4⟩ := append_eq (P := Tryd.prog) W 27 27 3 Tryd.underlying27 B Tinfo_int rfl (by decide) vo os.length _ h.opn _ 1 _ (lit_row hk1) (by intro u hu; simp at hu; subst hu; rfl) (by omega) (by omega) h.base
 have hgo := keeps_lt h.out
 refine ⟨v', w', h1, ⟨?_, h.lft.kept h3 ?_, ?_, grown_keeps h.below h.base h.opn h3, Nat.le_trans h.base h3.size, h.go0, ?_, h.l1, fun g e1 e2 => ?_, fun p hp => ?_⟩⟩
 ·rw [intsR_snoc, List.length_append]; exact h2
 ·cases hb : vl.ownBlock with
  | none => exact Or.inl rfl
  | some g => exact Or.inr fun e => h.ol g e.symm hb
 ·rw [h3.block go hgo (fun e => h.o1 e.symm)]; exact h.out
 ·rcases h4 with e | e
  ·rw [e]; exact h.o1
  ·rw [e]; intro e; simp only [Option.some.injEq] at e; omega
 ·rcases h4 with e | e
  ·rw [e] at e1; exact h.ol g e1 e2
  ·rw [e] at e1; simp only [Option.some.injEq] at e1
   have := (h.lft.lt g e2).2; omega
 ·obtain ⟨a, b, c, d⟩ := h.lits p hp
  have := keeps_lt a
  refine ⟨by rw [h3.block p.1 this (fun e => b e.symm)]; exact a, ?_, c, d⟩
  rcases h4 with e | e
  ·rw [e]; exact b
  ·rw [e]; intro e; simp only [Option.some.injEq] at e; omega
theorem UpW.flip {B go : Nat} {w0 W : World} {E os cs : List Int} {vo vl : Value} {L : List (Nat × Obj)} (h : UpW B go w0 E os cs vo vl L W) : UpW B go w0 E cs os vl vo L W :=
 ⟨h.lft, h.opn, h.out, h.below, h.base, h.go0, h.l1, h.o1, fun g a b => h.ol g b a, fun p hp => by obtain ⟨a, b, c, d⟩ := h.lits p hp; exact ⟨a, c, b, d⟩⟩
theorem UpW.appL {B go : Nat} {w0 W : World} {E os cs : List Int} {vo vl : Value} {L : List (Nat × Obj)} (h : UpW B go w0 E os cs vo vl L W) (k : Nat) (x : Int) (hk : (k, litB x) ∈ L) (hL : cs.length ≤ 1000000000) :
  ∃ v' w', (Builtin.append_ #[27, 27] 27 #[vl, .slice (some ⟨k, 0, none⟩) 1 1]).run Tryd.prog W = .ok v' w' ∧ UpW B go w0 E os (cs ++ [x]) vo v' L w' := by
 obtain ⟨v', w', h1, h2⟩ := h.flip.appO k x hk hL
 exact ⟨v', w', h1, h2.flip⟩
theorem UpW.drewN {B go : Nat} {w0 W : World} {E os cs : List Int} {vo vl : Value} {L : List (Nat × Obj)} (h : UpW B go w0 E os cs vo vl L W) (n : Nat) : UpW B go w0 E os cs vo vl L (W.drewN n) :=
 ⟨h.opn, h.lft, h.out, drewB h.below n, h.base, h.go0, h.o1, h.l1, h.ol, h.lits⟩
theorem UpW.put {B go : Nat} {w0 W : World} {E os cs : List Int} {vo vl : Value} {L : List (Nat × Obj)} (h : UpW B go w0 E os cs vo vl L W) (i : Nat) (x : Int) : UpW B go w0 (E.set i x) os cs vo vl L (W.setCell ⟨go, i, none⟩ (.int .i64 x)) := by
 refine ⟨ownsRow_setCell_other h.opn h.o1 _, ownsRow_setCell_other h.lft h.l1 _, ?_, h.below.setCell (p := ⟨go, i, none⟩) h.go0 _, by simpa using h.base, h.go0, h.o1, h.l1, h.ol, fun p hp => by
  obtain ⟨a, b, c, d⟩ := h.lits p hp
  exact ⟨by rw [heap_setCell_other _ _ _ _ (by exact d)]; exact a, b, c, d⟩⟩
 rw [heap_setCell_same W go i _ _ _ h.out, List.setIfInBounds_toArray]
 unfold intsR
 rw [List.map_set]
theorem UpW.pop {B go : Nat} {w0 W : World} {E os cs : List Int} {o c : Int} {ao al : Option Addr} {no nl co cl : Nat} {L : List (Nat × Obj)} (hno : no = os.length + 1) (hnl : nl = cs.length + 1) (h : UpW B go w0 E (os ++ [o]) (cs ++ [c]) (.slice ao no co) (.slice al nl cl) L W) :
  UpW B go w0 E os cs (.slice ao os.length co) (.slice al cs.length cl) L W := by
 subst hno hnl
 have h1 := h.opn
 have h2 := h.lft
 rw [List.length_append, List.length_singleton] at h1 h2
 have h1 := ownsRow_take h1 (k := os.length) (by omega)
 have h2 := ownsRow_take h2 (k := cs.length) (by omega)
 rw [intsR_snoc, Nat.mul_one, List.take_append_of_le_length (by simp [intsR]), List.take_of_length_le (by simp [intsR])] at h1 h2
 have ho : ∀ (a : Option Addr) (n n' c : Nat), (Value.slice a n c).ownBlock = (Value.slice a n' c).ownBlock := fun a n n' c => by cases a <;> rfl
 refine ⟨h1, h2, h.out, h.below, h.base, h.go0, ?_, ?_, ?_, ?_⟩
 ·rw [ho ao _ (os.length + 1)]; exact h.o1
 ·rw [ho al _ (cs.length + 1)]; exact h.l1
 ·rw [ho ao _ (os.length + 1), ho al _ (cs.length + 1)]; exact h.ol
 ·rw [ho ao _ (os.length + 1), ho al _ (cs.length + 1)]; exact h.lits
theorem UpW.less {B go : Nat} {w0 W : World} {E os cs : List Int} {c : Int} {vo : Value} {g nl cl : Nat} {L : List (Nat × Obj)} (hnl : nl = cs.length + 1) (h : UpW B go w0 E os (cs ++ [c]) vo (.slice (some ⟨g, 0, none⟩) nl cl) L W) (x : Int) :
  UpW B go w0 E os (cs ++ [x]) vo (.slice (some ⟨g, 0, none⟩) nl cl) L (W.setCell ⟨g, cs.length, none⟩ (.int .i64 x)) := by
 subst hnl
 have h2 := h.lft
 rw [List.length_append, List.length_singleton] at h2
 have h3 := owns_set h2 cs.length (by simp [intsR]) (.int .i64 x)
 have e1 : (intsR (cs ++ [c])).set cs.length (.int .i64 x) = intsR (cs ++ [x]) := by
  rw [intsR_snoc, intsR_snoc, List.set_append_right _ _ (by simp [intsR])]
  simp [intsR]
 rw [e1] at h3
 have hg : g ≠ go := fun e => h.l1 (by rw [e]; rfl)
 refine ⟨ownsRow_setCell_other h.opn (fun e => h.ol g e rfl) _, by rw [List.length_append, List.length_singleton]; exact h3, ?_, h.below.setCell (p := ⟨g, cs.length, none⟩) (h2.lt g rfl).1 _, by simpa using h.base, h.go0, h.o1, h.l1, h.ol, fun p hp => by
  obtain ⟨a, b, c, d⟩ := h.lits p hp
  exact ⟨by rw [heap_setCell_other W ⟨g, cs.length, none⟩ p.1 _ (fun e => c (congrArg some e.symm))]; exact a, b, c, d⟩⟩
 rw [heap_setCell_other _ _ _ _ (fun e => hg e.symm)]; exact h.out
theorem UpW.drew {B go : Nat} {w0 W : World} {E os cs : List Int} {vo vl : Value} {L : List (Nat × Obj)} (h : UpW B go w0 E os cs vo vl L W) : UpW B go w0 E os cs vo vl L W.drew := ⟨h.opn, h.lft, h.out, h.below.drew, h.base, h.go0, h.o1, h.l1, h.ol, h.lits⟩
theorem UpW.less_known {B go : Nat} {w0 W : World} {E os cs : List Int} {vo vl : Value} {L : List (Nat × Obj)} (h : UpW B go w0 E os cs vo vl L W) : UpW B go w0 E os cs vo vl [] W :=
 ⟨h.opn, h.lft, h.out, h.below, h.base, h.go0, h.o1, h.l1, h.ol, fun p hp => by cases hp⟩
def osL (st : List (Nat × Int)) : List Int := (st.map fun x => (x.1 : Int)).reverse
def csL (st : List (Nat × Int)) : List Int := (st.map (·.2)).reverse
theorem osL_length (st : List (Nat × Int)) : (osL st).length = st.length := by simp [osL]
theorem csL_length (st : List (Nat × Int)) : (csL st).length = st.length := by simp [csL]
theorem osL_cons (o : Nat) (c : Int) (st : List (Nat × Int)) : osL ((o, c) :: st) = osL st ++ [(o : Int)] := by simp [osL]
theorem csL_cons (o : Nat) (c : Int) (st : List (Nat × Int)) : csL ((o, c) :: st) = csL st ++ [c] := by simp [csL]
theorem UpW.shape {B go : Nat} {w0 W : World} {E : List Int} {st : List (Nat × Int)} {vo vl : Value} {L : List (Nat × Obj)} (h : UpW B go w0 E (osL st) (csL st) vo vl L W) :
  ∃ ao co al cl, vo = .slice ao st.length co ∧ vl = .slice al st.length cl ∧ st.length ≤ co ∧ st.length ≤ cl := by
 obtain ⟨_, ao, co, h1, h2, _, _⟩ := Row.of_owns h.opn
 obtain ⟨_, al, cl, h3, h4, _, _⟩ := Row.of_owns h.lft
 rw [osL_length] at h1 h2
 rw [csL_length] at h3 h4
 exact ⟨ao, co, al, cl, h1, h3, h2, h4⟩
theorem UpW.topc {B go : Nat} {w0 W : World} {E : List Int} {o : Nat} {c : Int} {r : List (Nat × Int)} {vo vl : Value} {L : List (Nat × Obj)} (h : UpW B go w0 E (osL ((o, c) :: r)) (csL ((o, c) :: r)) vo vl L W) :
  ∃ bo bl co cl, vo = .slice (some ⟨bo, 0, none⟩) (r.length + 1) co ∧ vl = .slice (some ⟨bl, 0, none⟩) (r.length + 1) cl ∧ r.length + 1 ≤ co ∧ r.length + 1 ≤ cl ∧
   W.cell? ⟨bo, r.length, none⟩ = some (.int .i64 (o : Int)) ∧ W.cell? ⟨bl, r.length, none⟩ = some (.int .i64 c) ∧ W.frozen? ⟨bl, r.length, none⟩ = false ∧ bl ≠ go := by
 have hne : ∀ g, vl.ownBlock = some g → g ≠ go := fun g e e2 => h.l1 (by rw [e, e2])
 obtain ⟨ao, co, al, cl, rfl, rfl, h3, h4⟩ := h.shape
 have h1 := h.opn
 have h2 := h.lft
 rw [osL_length] at h1
 rw [csL_length] at h2
 obtain ⟨bo, rfl⟩ := ownsRow_some h1 (by simp)
 obtain ⟨bl, rfl⟩ := ownsRow_some h2 (by simp)
 refine ⟨bo, bl, co, cl, rfl, rfl, h3, h4, ?_, ?_, ?_, hne bl rfl⟩
 ·rw [h1.cellAt _ (by simp), osL_cons, intsR_snoc, List.getElem?_append_right (by simp [intsR, osL])]
  simp [intsR, osL]
 ·rw [h2.cellAt _ (by simp), csL_cons, intsR_snoc, List.getElem?_append_right (by simp [intsR, csL])]
  simp [intsR, csL]
 ·rcases h2.2 with ⟨hv, _⟩ | ⟨g', cap', cur, hv, _, hh, _⟩
  ·cases hv
  ·simp only [Value.slice.injEq, Option.some.injEq, Addr.mk.injEq, and_true, true_and] at hv
   obtain ⟨rfl, rfl⟩ := hv
   simp [World.frozen?, hh]
theorem UpW.popc {B go : Nat} {w0 W : World} {E : List Int} {o : Nat} {c : Int} {r : List (Nat × Int)} {ao al : Option Addr} {co cl : Nat} {L : List (Nat × Obj)} (h : UpW B go w0 E (osL ((o, c) :: r)) (csL ((o, c) :: r)) (.slice ao (r.length + 1) co) (.slice al (r.length + 1) cl) L W) :
  UpW B go w0 E (osL r) (csL r) (.slice ao r.length co) (.slice al r.length cl) L W := by
 rw [osL_cons, csL_cons] at h
 have := UpW.pop (by rw [osL_length]) (by rw [csL_length]) h
 rw [osL_length, csL_length] at this
 exact this
theorem UpW.lessc {B go : Nat} {w0 W : World} {E : List Int} {o : Nat} {c : Int} {r : List (Nat × Int)} {vo : Value} {g cl : Nat} {L : List (Nat × Obj)} (h : UpW B go w0 E (osL ((o, c) :: r)) (csL ((o, c) :: r)) vo (.slice (some ⟨g, 0, none⟩) (r.length + 1) cl) L W) (x : Int) :
  UpW B go w0 E (osL ((o, x) :: r)) (csL ((o, x) :: r)) vo (.slice (some ⟨g, 0, none⟩) (r.length + 1) cl) L (W.setCell ⟨g, r.length, none⟩ (.int .i64 x)) := by
 rw [osL_cons, csL_cons] at h
 have := UpW.less (by rw [csL_length]) h x
 rw [csL_length] at this
 rw [osL_cons, csL_cons]
 exact this
theorem UpW.kid1 {B go : Nat} {w0 W : World} {E os cs : List Int} {vo vl : Value} {L : List (Nat × Obj)} {gp : Nat} {a kd : Int} {s : ByteArray} (h : UpW B go w0 E os cs vo vl L W) (hm : (gp, Obj.cells #[.int .u8 a, .int .i64 kd, .string s] 38) ∈ L) : W.cell? ⟨gp, 1, none⟩ = some (.int .i64 kd) := by
 have := (h.lits _ hm).1
 simp only at this
 simp [World.cell?, this]
theorem UpW.outc {B go : Nat} {w0 W : World} {E os cs : List Int} {vo vl : Value} {L : List (Nat × Obj)} (h : UpW B go w0 E os cs vo vl L W) (i : Nat) (hi : i < E.length) : W.cell? ⟨go, i, none⟩ = some (.int .i64 (E[i])) ∧ W.frozen? ⟨go, i, none⟩ = false := by
 constructor
 ·simp [World.cell?, h.out, intsR, hi]
 ·simp [World.frozen?, h.out]
theorem oper_append_run {P : Program} {w w' : World} {o : Oper} {a : Act} {K : Act → World → Prop} {Q : Exit → Act → World → Prop} (s x : Operand) (t u : TypeId) {v src v' : Value} {ty : TypeId}
  (hrun : (Builtin.append_ #[t, u] ty #[v, src]).run P w = .ok v' w') (ho : o.op = .call { callee := .builtin .append, args := #[s, x], argTypes := #[t, u] }) (hty : o.type = ty)
  (hs : a.eval s = v) (hx : a.eval x = src) (h : K (a.put o.dst v') w') : Oper.wp P o a w K Q := by
 subst hty
 unfold Oper.wp
 simp [execOp, ho, resolve, invoke, builtin, hs, hx, hrun, Result.andThen]
 exact h
end Go.Proofs.YtmklemelgdilkaaDoor
namespace Go.Proofs.YtmklemelgdilkaaDoor
set_option linter.all false

theorem made_one {r : RuleM} {l : List Prt} {bs : List Bnd} (hr : ruleZ r = 0) (hg : r.goal ≠ 3) (hb : rightB r l bs = true) (hv : ∀ h, ∃ ts, rowsB (piece l (bOf bs h).1 (bOf bs h).2) = some ts) : treesP r l bs = 1 := by
 have H := (rule_holes hr).2.1
 have h0 := (well_zero H.well).1
 have hin := bOf_in (right_in hb)
 have e1 : outP r l bs = madeP r l bs := by unfold outP; rw [if_neg hg]
 unfold treesP
 rw [e1]
 cases ho : holeOf r.by' r.holes 0 with
 | none =>
  obtain ⟨ts, h1, h2⟩ := (i_rows r.by' r.holes (fun h => piece l (bOf bs h).1 (bOf bs h).2) hv (fuelZ r.by')).1 0
  have h3 := (m_inst r.by' l r.holes (bOf bs) hin (fuelZ r.by')).1 0
  have h4 : rowsB ((madeP r l bs).map (·.1)) = some ts := by rw [← h1]; exact congrArg rowsB h3
  rw [treesZ_of h4, h2 ho h0 (by unfold fuelZ; omega)]; rfl
 | some h =>
  obtain ⟨hh, hs⟩ := holeOf_inv ho
  have u0 : upN r.by' 0 = -1 := rfl
  have k0 : kindI r.by' (-1) = none := by unfold kindI; rw [if_pos (by omega)]
  have hsv : isSev (r.holes[h]).2 = false := by
   cases e : isSev (r.holes[h]).2 with
   | false => rfl
   | true =>
    exfalso
    unfold isSev at e
    simp at e
    rcases stands_inv hs with ⟨a1, a2, a3, a4, a5⟩ | ⟨a1, a2, a5⟩
    ·have h7 : (r.holes[h]).2 = 7 := by unfold isStmt at a1; simp at a1; omega
     have := H.plc h hh 1 a3 a5
     unfold placeOK at this
     rw [h7, if_neg (by decide), if_pos rfl] at this
     have u1 : (upN r.by' 1).toNat = 0 := by
      unfold upN upI
      split <;> simp [upI]
     rw [u1, u0, k0] at this
     simp at this
    ·have h6 : (r.holes[h]).2 = 6 := by unfold isStmt at a1; simp at a1; omega
     have := H.plc h hh 0 a2 a5
     unfold placeOK at this
     rw [h6, if_neg (by decide), if_neg (by decide), if_pos rfl, u0, k0] at this
     simp at this
  have hbl := (rightB_iff.1 hb).1
  have hhb : h < bs.length := by omega
  obtain ⟨_, hrg, _, h1⟩ := okB_inv ((rightB_iff.1 hb).2 h hh hhb)
  have h2 := (h1 hsv).1
  have e2 : madeP r l bs = srcL l (bOf bs h).1 (bOf bs h).2 := mp_hole ho
  rw [e2, srcL_fst l (hin h).1 (hin h).2, bOf_at hhb]
  exact h2
theorem right_rows {r : RuleM} {l : List Prt} {bs : List Bnd} (hb : rightB r l bs = true) (h : Nat) : ∃ ts, rowsB (piece l (bOf bs h).1 (bOf bs h).2) = some ts := by
 by_cases hh : h < bs.length
 ·have hbl := (rightB_iff.1 hb).1
  obtain ⟨_, _, h1, _⟩ := okB_inv ((rightB_iff.1 hb).2 h (by omega) hh)
  rw [bOf_at hh]
  unfold treesZ at h1
  cases e : rowsB (piece l (bs[h]).2.1.toNat (bs[h]).2.2.toNat) with
  | some ts => exact ⟨ts, rfl⟩
  | none => rw [e] at h1; simp at h1
 ·unfold bOf
  rw [List.getElem?_eq_none (by omega)]
  exact ⟨[], by unfold piece; simp; rfl⟩
theorem mPart_one {t l : List Prt} {hs : List Hl} {b : Nat → Nat × Nat} (hb : ∀ h, (b h).1 ≤ (b h).2 ∧ (b h).2 ≤ l.length) (hv : ∀ h, ∃ ts, rowsB (piece l (b h).1 (b h).2) = some ts) {n p : Nat} (ho : holeOf t hs p = none) (hp : p < t.length) : cntP ((mPart t l hs b (n + 1) p).map (·.1)) = 1 := by
 obtain ⟨ts, h1, h2⟩ := (i_rows t hs (fun h => piece l (b h).1 (b h).2) hv (n + 1)).1 p
 rw [(m_inst t l hs b hb (n + 1)).1 p, cntP_of h1, h2 ho hp (by omega)]
theorem trees_cnt {l : List Prt} {ts : List Nat} (h : rowsB l = some ts) : treesZ l = (cntP l : Int) := by rw [treesZ_of h, cntP_of h]
theorem srcL_snoc (l : List Prt) {x i : Nat} (h : x ≤ i) : srcL l x (i + 1) = srcL l x i ++ [(ptAt l i, (i : Int))] := by
 unfold srcL
 rw [show i + 1 - x = (i - x) + 1 by omega, List.range'_1_concat, List.map_append, show x + (i - x) = i by omega]; rfl
theorem srcL_add (l : List Prt) {a b c : Nat} (h1 : a ≤ b) (h2 : b ≤ c) : srcL l a c = srcL l a b ++ srcL l b c := by
 unfold srcL
 rw [← List.map_append, show c - a = (b - a) + (c - b) by omega]
 congr 1
 have := List.range'_append (s := a) (m := b - a) (n := c - b) (step := 1)
 rw [Nat.one_mul, show a + (b - a) = b by omega] at this
 exact this.symm
def mkGo (out : List PN) (lg : Bool) (M : List PN) (out' : List PN) (lg' : Bool) : Prop := (lg = false ∧ out.length + M.length ≤ 131073 → lg' = false ∧ out' = out ++ M) ∧ (¬ (lg = false ∧ out.length + M.length ≤ 131073) → lg' = true)
theorem mkGo.nil (out : List PN) (lg : Bool) (h : out.length ≤ 131073) : mkGo out lg [] out lg := by
 refine ⟨fun h1 => ⟨h1.1, by simp⟩, fun h1 => ?_⟩
 cases lg with
 | true => rfl
 | false => exact absurd ⟨rfl, by simpa using h⟩ h1
theorem mkGo.app {out o1 o2 A B : List PN} {lg l1 l2 : Bool} (h : mkGo out lg A o1 l1) (k : mkGo o1 l1 B o2 l2) : mkGo out lg (A ++ B) o2 l2 := by
 constructor
 ·rintro ⟨h1, h2⟩
  rw [List.length_append] at h2
  obtain ⟨e1, e2⟩ := h.1 ⟨h1, by omega⟩
  subst e2
  obtain ⟨e3, e4⟩ := k.1 ⟨e1, by rw [List.length_append]; omega⟩
  exact ⟨e3, by rw [e4, List.append_assoc]⟩
 ·intro hn
  rw [List.length_append] at hn
  by_cases c : lg = false ∧ out.length + A.length ≤ 131073
  ·obtain ⟨e1, e2⟩ := h.1 c
   refine k.2 fun hc => hn ⟨c.1, ?_⟩
   have := hc.2
   rw [e2, List.length_append] at this
   omega
  ·have := h.2 c
   exact k.2 fun hc => by rw [this] at hc; cases hc.1
theorem mkGo.long {out o1 A B : List PN} {lg : Bool} (h : mkGo out lg A o1 true) : mkGo out lg (A ++ B) o1 true := by
 refine ⟨fun hc => ?_, fun _ => rfl⟩
 rw [List.length_append] at hc
 have := (h.1 ⟨hc.1, by omega⟩).1
 cases this
theorem mkGo.same {out o1 A B : List PN} {lg : Bool} (h : mkGo out lg A o1 true) (hl : B.length = A.length) : mkGo out lg B o1 true := by
 refine ⟨fun hc => ?_, fun _ => rfl⟩
 have := (h.1 ⟨hc.1, by omega⟩).1
 cases this
end Go.Proofs.YtmklemelgdilkaaDoor
