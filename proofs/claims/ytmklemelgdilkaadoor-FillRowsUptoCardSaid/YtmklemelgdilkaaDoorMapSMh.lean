/- Maps from strings to ints that a call makes: what stands at a key. -/
import Derived.Test.YtmklemelgdilkaaDoorCoreMh
import Derived.Maps.OwnSet
import Derived.Test.YtmklemelgdilkaaDoorGuardPMh
import Derived.Test.YtmklemelgdilkaaDoorRuleCMh
namespace Go.Proofs.YtmklemelgdilkaaDoor
set_option linter.all false
open Go.RowKit Go.Maps Go.WideShapes Go.WideMaps

theorem Tkey : Keyed Tryd.prog 9 := string_keyed Tryd.underlying9
theorem Tzero_int (w : World) : (zeroValue 3).run Tryd.prog w = .ok (.int .i64 0) w := by kernel_rfl
def keyS (s : ByteArray) : Lit := .string s.data.toList
theorem keyS_inj {s x : ByteArray} (h : keyS s = keyS x) : s = x := by
 unfold keyS at h
 simp only [Lit.string.injEq] at h
 exact ByteArray.ext (Array.ext' h)
theorem keyS_of {s : ByteArray} (hs : s.size ≤ maxLen) : keyOf Tryd.prog 9 (.string s) = some (keyS s) := keyOf_string_mk Tryd.underlying9 hs
def MapIs (w : World) (b n : Nat) (M : ByteArray → Option Int) : Prop :=
 ∃ D : DataW Unit, w.ownsMap Tryd.prog 9 (plainElem Tryd.prog 3) b n D ∧ ∀ s : ByteArray, s.size ≤ maxLen → Maps.has D (keyS s) = (M s).isSome ∧ D.atKey (keyS s) (.lit (.int .i64 0)) = .lit (.int .i64 ((M s).getD 0))
theorem MapIs.made (w : World) : MapIs (w.alloc (.map #[] 0)) w.heap.size 0 (fun _ => none) := ⟨_, World.ownsMap_made _ _ _ _, fun s _ => ⟨rfl, rfl⟩⟩
theorem MapIs.get {w : World} {b n : Nat} {M : ByteArray → Option Int} (h : MapIs w b n M) (s : ByteArray) (hs : s.size ≤ maxLen) : (Instr.lookup 82 (.map (some b)) (.string s) false).run Tryd.prog w = .ok (.int .i64 ((M s).getD 0)) w := by
 obtain ⟨D, hown, hD⟩ := h
 obtain ⟨c, hrun, hat, _⟩ := hown.lookup_int Tkey Tryd.underlying82 Tryd.underlying3 (Tzero_int _) (keyS_of hs)
 rw [(hD s hs).2] at hat
 simp only [DataW.lit.injEq, Lit.int.injEq, true_and] at hat
 rw [hrun, hat]
theorem MapIs.ok {w : World} {b n : Nat} {M : ByteArray → Option Int} (h : MapIs w b n M) (s : ByteArray) (hs : s.size ≤ maxLen) : (Instr.lookup 82 (.map (some b)) (.string s) true).run Tryd.prog w = .ok (.tuple #[.int .i64 ((M s).getD 0), .bool (M s).isSome]) w := by
 obtain ⟨D, hown, hD⟩ := h
 obtain ⟨v, ps, hrun, hv⟩ := hown.look_ok Tkey Tryd.underlying82 (Tzero_int _) (plainElem_int Tryd.underlying3 (by decide)) (keyS_of hs)
 obtain ⟨c, rfl, hc, _⟩ := plainElem_int_inv Tryd.underlying3 hv
 have hat := congrArg Prod.fst hc
 rw [(hD s hs).2] at hat
 simp only [DataW.lit.injEq, Lit.int.injEq, true_and] at hat
 rw [hrun, (hD s hs).1, hat]
theorem MapIs.put {w : World} {b n : Nat} {M : ByteArray → Option Int} (h : MapIs w b n M) (hn : n < maxLen) (s : ByteArray) (hs : s.size ≤ maxLen) (c : Int) (hc : (Lit.int .i64 c).wf = true) :
  ∃ w', (Instr.mapUpdate 82 (.map (some b)) (.string s) (.int .i64 c)).run Tryd.prog w = .ok () w' ∧ MapIs w' b (n + 1) (fun x => if x = s then some c else M x) ∧ w.grownBy w' (some b) := by
 obtain ⟨D, hown, hD⟩ := h
 obtain ⟨w', hrun, hown', hg⟩ := hown.update Tkey Tryd.underlying82 hn (keyS_of hs) (plainElem_int Tryd.underlying3 hc)
 refine ⟨w', hrun, ⟨_, hown', fun x hx => ?_⟩, hg⟩
 by_cases e : x = s
 ·subst e
  show Maps.has _ _ = (if x = x then some c else M x).isSome ∧ DataW.atKey _ _ _ = .lit (.int .i64 ((if x = x then some c else M x).getD 0))
  rw [if_pos rfl]
  exact ⟨has_put_same hown.isMap (show Go.WideAt.IsKeyLit (keyS x) by unfold keyS; trivial) _, atKey_put_same hown.isMap (show Go.WideAt.IsKeyLit (keyS x) by unfold keyS; trivial) _ _⟩
 ·show Maps.has _ _ = (if x = s then some c else M x).isSome ∧ DataW.atKey _ _ _ = .lit (.int .i64 ((if x = s then some c else M x).getD 0))
  rw [if_neg e, has_put_other (fun h => e (keyS_inj h)), atKey_put_other (fun h => e (keyS_inj h))]
  exact hD x hx
theorem MapIs.keep {w w' : World} {b n : Nat} {M : ByteArray → Option Int} (h : MapIs w b n M) {row : Option Nat} (hg : w.grownBy w' row) (hne : some b ≠ row) : MapIs w' b n M := by
 obtain ⟨D, hown, hD⟩ := h
 exact ⟨D, hown.kept hg hne, hD⟩
theorem MapIs.same {w w' : World} {b n : Nat} {M : ByteArray → Option Int} (h : MapIs w b n M) (hb : w'.heap[b]? = w.heap[b]?) : MapIs w' b n M := by
 obtain ⟨D, ⟨es, clock, h1, h2⟩, hD⟩ := h
 exact ⟨D, ⟨es, clock, by rw [hb]; exact h1, h2⟩, hD⟩
theorem MapIs.lt {w : World} {b n : Nat} {M : ByteArray → Option Int} (h : MapIs w b n M) : b < w.heap.size := by
 obtain ⟨D, hown, _⟩ := h
 exact hown.lt
theorem MapIs.below {w w' : World} {b n B : Nat} {M : ByteArray → Option Int} (h : MapIs w b n M) (hb : Below B w w') (hB : b < B) : MapIs w' b n M := h.same (hb.block b hB)
end Go.Proofs.YtmklemelgdilkaaDoor
namespace Go.Proofs.YtmklemelgdilkaaDoor
set_option linter.all false
theorem wpList_mapUpdate_run {P : Program} {w w' : World} {ops : Array Oper} {rest : List Oper} {o : Oper} {a : Act} {Q : Exit → Act → World → Prop}
  (hg : o.guard = none) (m x v : Operand) (t : TypeId) {mv key val : Value} (hrun : (Instr.mapUpdate t mv key val).run P w = .ok () w') (hop : o.op = Op.mapUpdate t m x v)
  (hm : a.eval m = mv) (hx : a.eval x = key) (hv : a.eval v = val) (hK : wpList P ops Q rest (a.put o.dst undef) w') : wpList P ops Q (o :: rest) a w := by
 refine wpList_plain hg fun K' hK' => ?_
 unfold Oper.wp
 simp [execOp, hop, hm, hx, hv, hrun, Result.andThen]
 exact hK' _ _ hK
end Go.Proofs.YtmklemelgdilkaaDoor
namespace Go.Proofs.YtmklemelgdilkaaDoor
set_option linter.all false
open Go.RowKit

abbrev RuleX := RuleM × Value × Value × Value
def ruleV (x : RuleX) : List Value := [.string x.1.nm, .int .u8 (x.1.goal : Int), x.2.1, x.2.2.1, x.2.2.2]
structure RulesIn (w : World) (v : Value) (rs : List RuleX) : Prop where
 R : Row w v rs.length 5 (rs.flatMap ruleV)
 E : ∀ x ∈ rs, RuleIn w x.1 x.2.1 x.2.2.1 x.2.2.2
theorem RulesIn.below {w w' : World} {v : Value} {rs : List RuleX} (h : RulesIn w v rs) (hb : Below w.heap.size w w') : RulesIn w' v rs := ⟨Row.below h.R hb, fun x hx => (h.E x hx).below hb⟩
theorem RulesIn.shape {w : World} {v : Value} {rs : List RuleX} (h : RulesIn w v rs) : ∃ a cap, v = .slice a rs.length cap ∧ rs.length ≤ cap := Row.shape h.R
theorem RulesIn.at {w w' : World} {a : Option Addr} {n cap : Nat} {rs : List RuleX} (h : RulesIn w (.slice a n cap) rs) (hb : Below w.heap.size w w') (hp : 0 < rs.length) :
  ∃ b off, a = some ⟨b, off, none⟩ ∧ n = rs.length ∧ rs.length ≤ cap ∧ b < w.heap.size ∧ ∀ i (hi : i < rs.length),
   w'.cell? ⟨b, off + i * 5, none⟩ = some (.string rs[i].1.nm) ∧ w'.cell? ⟨b, off + i * 5 + 1, none⟩ = some (.int .u8 (rs[i].1.goal : Int)) ∧ w'.cell? ⟨b, off + i * 5 + 2, none⟩ = some rs[i].2.1 ∧ w'.cell? ⟨b, off + i * 5 + 3, none⟩ = some rs[i].2.2.1 ∧ w'.cell? ⟨b, off + i * 5 + 4, none⟩ = some rs[i].2.2.2 := by
 obtain ⟨b, off, cap', hv, hc, hlt, hcell⟩ := Row.cells h.R hb hp
 simp only [Value.slice.injEq] at hv
 obtain ⟨rfl, rfl, rfl⟩ := hv
 have key : ∀ i (hi : i < rs.length) (j : Nat), j < 5 → w'.cell? ⟨b, off + i * 5 + j, none⟩ = (ruleV rs[i])[j]? := fun i hi j hj => by
  rw [Nat.add_assoc, hcell _ (by omega)]
  exact flat_at (g := ruleV) (sz := 5) (fun _ => rfl) rs i j hi hj
 refine ⟨b, off, rfl, rfl, hc, hlt, fun i hi => ⟨?_, ?_, ?_, ?_, ?_⟩⟩
 ·exact key i hi 0 (by omega)
 ·exact key i hi 1 (by omega)
 ·exact key i hi 2 (by omega)
 ·exact key i hi 3 (by omega)
 ·exact key i hi 4 (by omega)
end Go.Proofs.YtmklemelgdilkaaDoor
namespace Go.Proofs.YtmklemelgdilkaaDoor
set_option linter.all false

theorem step_each {rules : List RuleM} {l : List Prt} : ∀ {P : List Pk} {free : Nat} {size : Int}, stepErr rules l P free size = 0 → ∀ p ∈ P, ∃ r, rules[p.1.toNat]? = some r ∧ 0 ≤ p.2.1 ∧ p.2.1 < l.length ∧ mkOf rules l p = (p.2.1.toNat, outP r l p.2.2, treesP r l p.2.2 - 1) ∧ rightB r l p.2.2 = true ∧ (outP r l p.2.2).length ≤ 131072
 | [], _, _, _, p, hp => by cases hp
 | (n, x, bs) :: P, free, size, h, p, hp => by
  obtain ⟨h1, h2, h3, r, hr, h4, h5, h6, h7⟩ := stepErr_cons h
  rcases List.mem_cons.1 hp with rfl | hp
  ·exact ⟨r, hr, by show 0 ≤ x; omega, h3, mkOf_of hr, h4, h5⟩
  ·exact step_each h7 p hp
theorem step_size {rules : List RuleM} {l : List Prt} : ∀ {P : List Pk} {free : Nat} {size : Int}, stepErr rules l P free size = 0 → size + laterS l (mksOf rules l P) ≤ 131072
 | [], _, size, h => by
  rw [stepErr] at h
  show size + laterS l [] ≤ 131072
  rw [laterS]
  split at h
  ·cases h
  ·omega
 | (n, x, bs) :: P, free, size, h => by
  obtain ⟨h1, h2, h3, r, hr, h4, h5, h6, h7⟩ := stepErr_cons h
  have ih := step_size h7
  have e : mksOf rules l ((n, x, bs) :: P) = (x.toNat, outP r l bs, treesP r l bs - 1) :: mksOf rules l P := by
   unfold mksOf
   rw [List.map_cons, mkOf_of hr]
  rw [e, laterS]
  omega
theorem stepOut_len {rules : List RuleM} {l : List Prt} {P : List Pk} (hw : wellB l = true) (h : stepErr rules l P ((0 : Nat) : Int) l.length = 0) : (stepOut rules l P).length ≤ 131072 := by
 have h1 := step_size h
 have h2 := outGo_len l (mksOf rules l P) (well_rows hw) (mksOf rules l P) (l.length + 1) 0 (step_free h) (by omega) (Nat.zero_le _)
 rw [laterZ_sum] at h2
 unfold stepOut
 omega
theorem stepOut_small {rules : List RuleM} {l : List Prt} {P : List Pk} (hw : wellB l = true) (hl : SmallL l) (hr : ∀ r ∈ rules, SmallR r) (h : stepErr rules l P ((0 : Nat) : Int) l.length = 0) : SmallL ((stepOut rules l P).map (·.1)) := by
 refine ⟨by rw [List.length_map]; have := stepOut_len hw h; omega, fun q hq => ?_⟩
 obtain ⟨y, hy, rfl⟩ := List.mem_map.1 hq
 unfold stepOut at hy
 rcases outGo_mem l _ (well_rows hw) _ _ _ y hy with ⟨j, hj, rfl⟩ | ⟨p, hp, hy⟩
 ·have e : ptAt l j = l[j] := by unfold ptAt; simp [List.getD_eq_getElem?_getD, hj]
  have := hl.2 _ (List.getElem_mem hj)
  unfold stayN
  simp only [e]
  exact this
 ·unfold mksOf at hp
  obtain ⟨x, hx, rfl⟩ := List.mem_map.1 hp
  obtain ⟨r, hr1, _, _, e, _, _⟩ := step_each h x hx
  rw [e] at hy
  have hrm : r ∈ rules := by
   obtain ⟨i, hi⟩ := List.getElem?_eq_some_iff.1 hr1
   rw [← hi]; exact List.getElem_mem _
  have hm := (m_small (t := r.by') (l := l) (hs := r.holes) (b := bOf x.2.2) (hr r hrm).b hl (fuelZ r.by')).1 0
  have hy : y ∈ outP r l x.2.2 := hy
  unfold outP at hy
  split at hy
  ·exact hm y (List.mem_of_mem_drop hy)
  ·exact hm y hy
theorem outGo_stop (l : List Prt) (A : List Mk) (n : Nat) : ∀ P : List Mk, outGo l A (n + 1) l.length P = []
 | [] => by rw [outGo, if_neg (by omega)]
 | (x, m, d) :: R => by rw [outGo, if_neg (by omega)]
theorem Free.tail {l : List Prt} {i : Nat} {x : Nat} {m : List PN} {d : Int} {R : List Mk} (h : Free l i ((x, m, d) :: R)) (hi : x ≠ i) : Free l (i + 1) ((x, m, d) :: R) := by
 obtain ⟨h1, h2, h3⟩ := h
 exact ⟨by omega, h2, h3⟩
theorem moreAt_small {rules : List RuleM} {l : List Prt} {P : List Pk} (h : ∀ p ∈ mksOf rules l P, -1 ≤ p.2.2 ∧ p.2.2 ≤ 131072) (hp : P.length ≤ 1048576) (i : Nat) : -137438953472 ≤ moreAt l (mksOf rules l P) i ∧ moreAt l (mksOf rules l P) i ≤ 137438953472 := by
 have := moreAt_bd l i _ h
 have e : (mksOf rules l P).length = P.length := by unfold mksOf; simp
 rw [e] at this
 omega
end Go.Proofs.YtmklemelgdilkaaDoor
