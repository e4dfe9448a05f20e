/- Maps from strings to ints that a call makes: what stands at a key. -/
import Derived.Test.YtbhicblkgjgenaaDoorCoreM
import Derived.Maps.OwnSet
import Derived.Test.YtbhicblkgjgenaaDoorRuleVM
import Derived.Test.YtbhicblkgjgenaaDoorAppEqM
import Derived.Deep.QuietTactic
import Derived.BigQuiet
import Derived.Deep.Cut
import Derived.Test.YtbhicblkgjgenaaDoorMatchPM
import Derived.Test.YtbhicblkgjgenaaDoorTermM
namespace Go.Proofs.YtbhicblkgjgenaaDoor
set_option linter.all false
open Go.RowKit Go.Maps Go.WideShapes Go.WideMaps

theorem Tkey : Keyed Tryd.prog 9 := string_keyed Tryd.underlying9
theorem Tzero_int (w : World) : (zeroValue 3).run Tryd.prog w = .ok (.int .i64 0) w := by kernel_rfl
def keyS (s : ByteArray) : Lit := .string s.data.toList
theorem keyS_inj {s x : ByteArray} (h : keyS s = keyS x) : s = x := by
  unfold keyS at h
  simp only [Lit.string.injEq] at h
  exact ByteArray.ext (Array.ext' h)
theorem keyS_of {s : ByteArray} (hs : s.size ≤ maxLen) : keyOf Tryd.prog 9 (.string s) = some (keyS s) := keyOf_string_mk Tryd.underlying9 hs
/-- Block b is a map of at most n entries; M tells what stands at a key. -/
def MapIs (w : World) (b n : Nat) (M : ByteArray → Option Int) : Prop :=
  ∃ D : DataW Unit, w.ownsMap Tryd.prog 9 (plainElem Tryd.prog 3) b n D ∧ ∀ s : ByteArray, s.size ≤ maxLen → Maps.has D (keyS s) = (M s).isSome ∧ D.atKey (keyS s) (.lit (.int .i64 0)) = .lit (.int .i64 ((M s).getD 0))
theorem MapIs.made (w : World) : MapIs (w.alloc (.map #[] 0)) w.heap.size 0 (fun _ => none) := ⟨_, World.ownsMap_made _ _ _ _, fun s _ => ⟨rfl, rfl⟩⟩
theorem MapIs.get {w : World} {b n : Nat} {M : ByteArray → Option Int} (h : MapIs w b n M) (s : ByteArray) (hs : s.size ≤ maxLen) : (Instr.lookup 61 (.map (some b)) (.string s) false).run Tryd.prog w = .ok (.int .i64 ((M s).getD 0)) w := by
  obtain ⟨D, hown, hD⟩ := h
  obtain ⟨c, hrun, hat, _⟩ := hown.lookup_int Tkey Tryd.underlying61 Tryd.underlying3 (Tzero_int _) (keyS_of hs)
  rw [(hD s hs).2] at hat
  simp only [DataW.lit.injEq, Lit.int.injEq, true_and] at hat
  rw [hrun, hat]
theorem MapIs.ok {w : World} {b n : Nat} {M : ByteArray → Option Int} (h : MapIs w b n M) (s : ByteArray) (hs : s.size ≤ maxLen) : (Instr.lookup 61 (.map (some b)) (.string s) true).run Tryd.prog w = .ok (.tuple #[.int .i64 ((M s).getD 0), .bool (M s).isSome]) w := by
  obtain ⟨D, hown, hD⟩ := h
  obtain ⟨v, ps, hrun, hv⟩ := hown.look_ok Tkey Tryd.underlying61 (Tzero_int _) (plainElem_int Tryd.underlying3 (by decide)) (keyS_of hs)
  obtain ⟨c, rfl, hc, _⟩ := plainElem_int_inv Tryd.underlying3 hv
  have hat := congrArg Prod.fst hc
  rw [(hD s hs).2] at hat
  simp only [DataW.lit.injEq, Lit.int.injEq, true_and] at hat
  rw [hrun, (hD s hs).1, hat]
theorem MapIs.put {w : World} {b n : Nat} {M : ByteArray → Option Int} (h : MapIs w b n M) (hn : n < maxLen) (s : ByteArray) (hs : s.size ≤ maxLen) (c : Int) (hc : (Lit.int .i64 c).wf = true) :
    ∃ w', (Instr.mapUpdate 61 (.map (some b)) (.string s) (.int .i64 c)).run Tryd.prog w = .ok () w' ∧ MapIs w' b (n + 1) (fun x => if x = s then some c else M x) ∧ w.grownBy w' (some b) := by
  obtain ⟨D, hown, hD⟩ := h
  obtain ⟨w', hrun, hown', hg⟩ := hown.update Tkey Tryd.underlying61 hn (keyS_of hs) (plainElem_int Tryd.underlying3 hc)
  refine ⟨w', hrun, ⟨_, hown', fun x hx => ?_⟩, hg⟩
  by_cases e : x = s
  · subst e
    show Maps.has _ _ = (if x = x then some c else M x).isSome ∧ DataW.atKey _ _ _ = .lit (.int .i64 ((if x = x then some c else M x).getD 0))
    rw [if_pos rfl]
    exact ⟨has_put_same hown.isMap (show Go.WideAt.IsKeyLit (keyS x) by unfold keyS; trivial) _, atKey_put_same hown.isMap (show Go.WideAt.IsKeyLit (keyS x) by unfold keyS; trivial) _ _⟩
  · show Maps.has _ _ = (if x = s then some c else M x).isSome ∧ DataW.atKey _ _ _ = .lit (.int .i64 ((if x = s then some c else M x).getD 0))
    rw [if_neg e, has_put_other (fun h => e (keyS_inj h)), atKey_put_other (fun h => e (keyS_inj h))]
    exact hD x hx
theorem MapIs.keep {w w' : World} {b n : Nat} {M : ByteArray → Option Int} (h : MapIs w b n M) {row : Option Nat} (hg : w.grownBy w' row) (hne : some b ≠ row) : MapIs w' b n M := by
  obtain ⟨D, hown, hD⟩ := h
  exact ⟨D, hown.kept hg hne, hD⟩
theorem MapIs.same {w w' : World} {b n : Nat} {M : ByteArray → Option Int} (h : MapIs w b n M) (hb : w'.heap[b]? = w.heap[b]?) : MapIs w' b n M := by
  obtain ⟨D, ⟨es, clock, h1, h2⟩, hD⟩ := h
  exact ⟨D, ⟨es, clock, by rw [hb]; exact h1, h2⟩, hD⟩
theorem MapIs.lt {w : World} {b n : Nat} {M : ByteArray → Option Int} (h : MapIs w b n M) : b < w.heap.size := by
  obtain ⟨D, hown, _⟩ := h
  exact hown.lt
theorem MapIs.below {w w' : World} {b n B : Nat} {M : ByteArray → Option Int} (h : MapIs w b n M) (hb : Below B w w') (hB : b < B) : MapIs w' b n M := h.same (hb.block b hB)
end Go.Proofs.YtbhicblkgjgenaaDoor
namespace Go.Proofs.YtbhicblkgjgenaaDoor
set_option linter.all false
open Go.RowKit

/-- What a search is about, and where it lies. -/
structure SkE where
  f : List Prt
  l : List Prt
  hs : List Hl
  g : Nat
  vf : Value
  vl : Value
  vfe : Value
  ve : Value
  vk : Value
  bm : Nat
  nm : Nat
  vb : Value
  vz : Value
  B : Nat
/-- All blocks stay but the two that the binds lie in. -/
structure KeptX (E : SkE) (w w' : World) : Prop where
  os : w'.os = w.os
  tape : w'.tape = w.tape
  output : w'.output = w.output
  size : w.heap.size ≤ w'.heap.size
  block : ∀ k, k < w.heap.size → some k ≠ E.vb.ownBlock → some k ≠ E.vz.ownBlock → w'.heap[k]? = w.heap[k]?
theorem KeptX.refl (E : SkE) (w : World) : KeptX E w w := ⟨rfl, rfl, rfl, Nat.le_refl _, fun _ _ _ _ => rfl⟩
theorem KeptX.trans {E : SkE} {a b c : World} (h : KeptX E a b) (k : KeptX E b c) : KeptX E a c :=
  ⟨k.os.trans h.os, k.tape.trans h.tape, k.output.trans h.output, Nat.le_trans h.size k.size, fun i hi h1 h2 => (k.block i (Nat.lt_of_lt_of_le hi h.size) h1 h2).trans (h.block i hi h1 h2)⟩
theorem KeptX.of_below {E : SkE} {w w' : World} (h : Below w.heap.size w w') : KeptX E w w' := ⟨h.os, h.tape, h.output, h.size, fun k hk _ _ => h.block k hk⟩
theorem KeptX.drewN (E : SkE) (w : World) (n : Nat) : KeptX E w (w.drewN n) := KeptX.of_below (drewB (Below.refl _ _) n)
theorem KeptX.drew (E : SkE) (w : World) : KeptX E w w.drew := KeptX.of_below (Below.refl _ _).drew
theorem KeptX.alloc (E : SkE) (w : World) (o : Obj) : KeptX E w (w.alloc o) := KeptX.of_below ((Below.refl _ _).alloc (Nat.le_refl _) _)
/-- A block that is none of the two. -/
theorem KeptX.cell {E : SkE} {w w' : World} (h : KeptX E w w') {k o : Nat} (hk : k < w.heap.size) (h1 : some k ≠ E.vb.ownBlock) (h2 : some k ≠ E.vz.ownBlock) : w'.cell? ⟨k, o, none⟩ = w.cell? ⟨k, o, none⟩ := by
  simp only [World.cell?, h.block k hk h1 h2]
/-- What the holes' names say. -/
def holeM (hs : List Hl) (s : ByteArray) : Option Int := (hs.findIdx? fun h => decide (s = h.1)).map fun (n : Nat) => (n : Int)
def kindsI (hs : List Hl) : List Int := hs.map fun h => (h.2 : Int)
/-- What does not turn while a way is sought. -/
structure SkFix (E : SkE) (w : World) : Prop where
  s : w.heap[E.g]? = some (.cells #[E.vf, E.vl, E.vfe, E.ve, .map (some E.bm), E.vk, E.vb, E.vz] 65 (0, 0))
  f : PartRow w E.vf E.f
  l : PartRow w E.vl E.l
  fe : RowInts w E.vfe .i64 (endsL E.f)
  e : RowInts w E.ve .i64 (endsL E.l)
  m : MapIs w E.bm E.nm (holeM E.hs)
  k : RowInts w E.vk .u8 (kindsI E.hs)
/-- .. and stays so. -/
def SkStat (E : SkE) (w : World) : Prop := ∀ w', KeptX E w w' → SkFix E w'
theorem SkStat.keep {E : SkE} {w w' : World} (h : SkStat E w) (k : KeptX E w w') : SkStat E w' := fun x hx => h x (k.trans hx)
theorem SkStat.now {E : SkE} {w : World} (h : SkStat E w) : SkFix E w := h w (KeptX.refl _ _)
def boundV (σ : MSt) : List Value := σ.map fun o => .bool o.isSome
/-- What a search stands at. -/
structure SkIn (E : SkE) (σ : MSt) (w : World) : Prop where
  st : SkStat E w
  b : w.ownsRow E.B 39 3 E.vb E.hs.length (bindsV (bindsOf E.hs σ))
  z : w.ownsRow E.B 4 1 E.vz E.hs.length (boundV σ)
  n : σ.length = E.hs.length
  r : ∀ (h : Nat) (q : Nat × Nat), σ[h]? = some (some q) → q.1 ≤ q.2 ∧ q.2 ≤ E.l.length
/-- The lists and the holes of a search. -/
structure SkOK (E : SkE) : Prop where
  hf : HolesOK E.f E.hs
  hl : wellB E.l = true
  fl : E.f.length ≤ 1048576
  ll : E.l.length ≤ 1048576
  hn : E.hs.length ≤ 1048576
  hk : ∀ x ∈ E.hs, x.2 < 256 ∧ x.1.size ≤ 1048576
  fk : SmallL E.f
  lk : SmallL E.l
  ne : E.vb.ownBlock = none ∨ E.vb.ownBlock ≠ E.vz.ownBlock
  nb : some E.g ≠ E.vb.ownBlock ∧ some E.g ≠ E.vz.ownBlock
/-- A step's answer: the way that was found, or all as it was. -/
@[irreducible] def seekPost (E : SkE) (o : Option MSt) (σ : MSt) (w : World) (e : Ending) (w' : World) : Prop :=
  KeptX E w w' ∧ match o with
    | some τ => e = .returned (.bool true) ∧ SkIn E τ w'
    | none => e = .returned (.bool false) ∧ SkIn E σ w'
theorem seekPost.yes {E : SkE} {o : Option MSt} {σ τ : MSt} {w w' : World} (ho : o = some τ) (h : KeptX E w w') (hi : SkIn E τ w') : seekPost E o σ w (.returned (.bool true)) w' := by
  unfold seekPost; rw [ho]; exact ⟨h, rfl, hi⟩
theorem seekPost.no {E : SkE} {o : Option MSt} {σ : MSt} {w w' : World} (ho : o = none) (h : KeptX E w w') (hi : SkIn E σ w') : seekPost E o σ w (.returned (.bool false)) w' := by
  unfold seekPost; rw [ho]; exact ⟨h, rfl, hi⟩
theorem seekPost.out {E : SkE} {o : Option MSt} {σ : MSt} {w w' : World} {e : Ending} (h : seekPost E o σ w e w') : KeptX E w w' ∧ ((∃ τ, o = some τ ∧ e = .returned (.bool true) ∧ SkIn E τ w') ∨ (o = none ∧ e = .returned (.bool false) ∧ SkIn E σ w')) := by
  unfold seekPost at h
  cases o with
  | some τ => exact ⟨h.1, Or.inl ⟨τ, rfl, h.2⟩⟩
  | none => exact ⟨h.1, Or.inr ⟨rfl, h.2⟩⟩
theorem seekPost.from {E : SkE} {o : Option MSt} {σ : MSt} {w0 w w' : World} {e : Ending} (h : seekPost E o σ w e w') (k : KeptX E w0 w) : seekPost E o σ w0 e w' := by
  unfold seekPost at h ⊢
  exact ⟨k.trans h.1, h.2⟩
/-- A function of the program's own text is entered. -/
theorem enter_own {f : FuncId} {fn : Func} {c : Code} (hf : Tryd.prog.funcs[f]? = some fn) (hname : (fn.name == "runtime.NumGoroutine") = false) (hb : fn.body = some c) (args : Array Value) (w : World) :
    (callFunc f args).run Tryd.prog w = .ok (.enter f args) w := by
  have h1 : fn.name ≠ "runtime.NumGoroutine" := by simpa using hname
  simp [callFunc, hf, h1, hb]
/-- A function value that goes on as K says, from whatever stands then. -/
def ThenOK (E : SkE) (K : MSt → Option MSt) (tv : Value) (w0 : World) : Prop :=
  ∃ k cap, tv = .func (.func k) #[] cap ∧ (∀ args w, (callFunc k args).run Tryd.prog w = .ok (.enter k args) w) ∧ ∀ w σ, KeptX E w0 w → SkIn E σ w → Calls Tryd.prog k cap w (seekPost E (K σ) σ w)
theorem ThenOK.keep {E : SkE} {K : MSt → Option MSt} {tv : Value} {w w' : World} (h : ThenOK E K tv w) (k : KeptX E w w') : ThenOK E K tv w' := by
  obtain ⟨n, cap, e, hr, hc⟩ := h
  exact ⟨n, cap, e, hr, fun x σ hx => hc x σ (k.trans hx)⟩
/-- What stands in a world in which only other blocks are new. -/
theorem SkIn.below {E : SkE} {σ : MSt} {w w' : World} (h : SkIn E σ w) (hb : Below w.heap.size w w') : SkIn E σ w' :=
  ⟨h.st.keep (KeptX.of_below hb), owns_below h.b hb, owns_below h.z hb, h.n, h.r⟩
theorem SkIn.drewN {E : SkE} {σ : MSt} {w : World} (h : SkIn E σ w) (n : Nat) : SkIn E σ (w.drewN n) := h.below (drewB (Below.refl _ _) n)
theorem SkFix.cells {E : SkE} {w : World} (h : SkFix E w) : w.cell? ⟨E.g, 0, none⟩ = some E.vf ∧ w.cell? ⟨E.g, 1, none⟩ = some E.vl ∧ w.cell? ⟨E.g, 2, none⟩ = some E.vfe ∧ w.cell? ⟨E.g, 3, none⟩ = some E.ve ∧ w.cell? ⟨E.g, 4, none⟩ = some (.map (some E.bm)) ∧ w.cell? ⟨E.g, 5, none⟩ = some E.vk ∧ w.cell? ⟨E.g, 6, none⟩ = some E.vb ∧ w.cell? ⟨E.g, 7, none⟩ = some E.vz := by
  simp only [World.cell?, h.s]
  exact ⟨rfl, rfl, rfl, rfl, rfl, rfl, rfl, rfl⟩
end Go.Proofs.YtbhicblkgjgenaaDoor
namespace Go.Proofs.YtbhicblkgjgenaaDoor
set_option linter.all false
attribute [local irreducible] Calls
open Go.RowKit

theorem may_val {hole k : Nat} (h1 : 1 ≤ hole) (h5 : hole ≤ 5) : mayB hole k = (if hole = 1 then decide (26 ≤ k ∧ k ≤ 48 ∧ k ≠ 38) else if hole = 2 then decide (k = 26) else if hole = 3 then decide (k = 27) else if hole = 4 then decide (k = 26 ∨ (28 ≤ k ∧ k ≤ 30) ∨ k = 35 ∨ (41 ≤ k ∧ k ≤ 48)) else decide (49 ≤ k ∧ k ≤ 68 ∧ k ≠ 62 ∧ k ≠ 64)) := by
  unfold mayB
  by_cases e1 : hole = 1
  · rw [if_pos e1, if_pos e1, Bool.eq_iff_iff]; simp [and_assoc]
  rw [if_neg e1, if_neg e1]
  by_cases e2 : hole = 2
  · rw [if_pos e2, if_pos e2, Bool.eq_iff_iff]; simp
  rw [if_neg e2, if_neg e2]
  by_cases e3 : hole = 3
  · rw [if_pos e3, if_pos e3, Bool.eq_iff_iff]; simp
  rw [if_neg e3, if_neg e3]
  by_cases e4 : hole = 4
  · rw [if_pos e4, if_pos e4, Bool.eq_iff_iff]; simp [or_assoc]
  rw [if_neg e4, if_neg e4, if_pos (by omega), Bool.eq_iff_iff]
  simp [and_assoc]
theorem may_yes {hole k : Nat} (h1 : 1 ≤ hole) (h5 : hole ≤ 5) (h : (hole = 1 ∧ 26 ≤ k ∧ k ≤ 48 ∧ k ≠ 38) ∨ (hole = 2 ∧ k = 26) ∨ (hole = 3 ∧ k = 27) ∨ (hole = 4 ∧ (k = 26 ∨ (28 ≤ k ∧ k ≤ 30) ∨ k = 35 ∨ (41 ≤ k ∧ k ≤ 48))) ∨ (hole = 5 ∧ 49 ≤ k ∧ k ≤ 68 ∧ k ≠ 62 ∧ k ≠ 64)) : mayB hole k = true := by
  rw [may_val h1 h5]
  repeat' split
  all_goals (simp only [decide_eq_true_eq]; omega)
theorem may_no {hole k : Nat} (h1 : 1 ≤ hole) (h5 : hole ≤ 5) (h : ¬ ((hole = 1 ∧ 26 ≤ k ∧ k ≤ 48 ∧ k ≠ 38) ∨ (hole = 2 ∧ k = 26) ∨ (hole = 3 ∧ k = 27) ∨ (hole = 4 ∧ (k = 26 ∨ (28 ≤ k ∧ k ≤ 30) ∨ k = 35 ∨ (41 ≤ k ∧ k ≤ 48))) ∨ (hole = 5 ∧ 49 ≤ k ∧ k ≤ 68 ∧ k ≠ 62 ∧ k ≠ 64))) : mayB hole k = false := by
  rw [may_val h1 h5]
  repeat' split
  all_goals (simp only [decide_eq_false_iff_not]; omega)
set_option maxRecDepth 100000 in
set_option maxHeartbeats 16000000 in
theorem match_may (hole k : Nat) (h1 : 1 ≤ hole) (h5 : hole ≤ 5) (hk : k < 256) (w : World) :
    Calls Tryd.prog 38 #[.int .u8 (hole : Int), .int .u8 (k : Int)] w fun e w' => e = .returned (.bool (mayB hole k)) ∧ w = w' := by
  have HQ : RowKit.Hid (∀ x, mayB hole k = x → (fun (e : Ending) w' => e = .returned (.bool (mayB hole k)) ∧ w = w') (.returned (.bool x)) w) := Lib.hid fun x h => ⟨by rw [h], rfl⟩
  generalize (fun (e : Ending) w' => e = .returned (.bool (mayB hole k)) ∧ w = w') = Q at *
  have hh : hole = 1 ∨ hole = 2 ∨ hole = 3 ∨ hole = 4 ∨ hole = 5 := by omega
  have HV := Lib.hid (may_val (k := k) h1 h5)
  clear h1 h5
  rcases hh with rfl | rfl | rfl | rfl | rfl
  all_goals
    go_enter Tryd.func38, Tryd.ntmps38
    go_wp2_with fail
    all_goals
      refine HQ.out _ ?_
      rw [HV.out, Bool.eq_iff_iff]
      first
        | (simp; done)
        | (simp; omega)
end Go.Proofs.YtbhicblkgjgenaaDoor
namespace Go.Proofs.YtbhicblkgjgenaaDoor
set_option linter.all false
open Go.RowKit

theorem elem_part : Tryd.prog.underlying 23 = some (.slice (Tryd.prog.elem 23)) := by kernel_rfl
theorem size_part_run (w : World) : (sizeOf (Tryd.prog.elem 23)).run Tryd.prog w = .ok 3 w := by
  have h : (Tryd.prog.info? (Tryd.prog.elem 23)).map (·.size) = some 3 := by kernel_rfl
  cases hq : Tryd.prog.info? (Tryd.prog.elem 23) with
  | none => rw [hq] at h; cases h
  | some i =>
    rw [hq] at h
    simp only [Option.map_some, Option.some.injEq] at h
    simp [sizeOf, typeInfo, hq, h]
theorem slice_fromP (g off n c lo : Nat) (hlo : lo ≤ n) : ∃ p : Option Addr, (∀ w, (Instr.slice 23 (.slice (some ⟨g, off, none⟩) n c) (some (.int .i64 (lo : Int))) none none).run Tryd.prog w = .ok (.slice p (n - lo) (c - lo)) w) ∧ (lo < c → p = some ⟨g, off + lo * 3, none⟩) := by
  refine ⟨if c = lo then some ⟨g, off, none⟩ else some ⟨g, off + lo * 3, none⟩, fun w => ?_, fun h => if_neg (by omega)⟩
  rw [run_slice_l w _ _ _ _ elem_part .i64 (lo : Int) (by omega) (by omega), size_part_run]
  simp only [Result.andThen, sliced, Int.toNat_natCast]
  by_cases h : c = lo
  · rw [if_pos h, if_pos h]
  · rw [if_neg h, if_neg h]; simp [Addr.add]
end Go.Proofs.YtbhicblkgjgenaaDoor
namespace Go.Proofs.YtbhicblkgjgenaaDoor
set_option linter.all false
open Go.RowKit

theorem partsV_split (l : List Prt) (lo : Nat) (i : Nat) (h : lo ≤ l.length) : (partsV (l.drop lo))[i]? = (partsV l)[lo * 3 + i]? := by
  have := partsV_append (l.take lo) (l.drop lo)
  rw [List.take_append_drop] at this
  rw [this, List.getElem?_append_right (by rw [partsV_length, List.length_take]; omega), partsV_length, List.length_take, Nat.min_eq_left h]
  congr 1; omega
theorem slice_piece (w : World) (v : Value) (l : List Prt) (hr : PartRow w v l) (lo hi : Nat) (h1 : lo ≤ hi) (h2 : hi ≤ l.length) :
    ∃ p cap, (∀ w', (Instr.slice 23 v (some (.int .i64 (lo : Int))) (some (.int .i64 (hi : Int))) none).run Tryd.prog w' = .ok (.slice p (hi - lo) cap) w') ∧ PartRow w (.slice p (hi - lo) cap) (piece l lo hi) := by
  obtain ⟨a, cap, rfl, hc⟩ := hr.slice
  have hlen : (piece l lo hi).length = hi - lo := by unfold piece; rw [List.length_take, List.length_drop]; omega
  refine ⟨if cap = lo then a else a.map (·.add (lo * 3)), cap - lo, fun w' => ?_, ?_⟩
  · rw [run_slice_lh w' _ _ _ _ elem_part .i64 .i64 (lo : Int) (hi : Int) (by omega) (by omega) (by omega), size_part_run]
    simp only [Result.andThen, sliced, Int.toNat_natCast]
  · unfold PartRow
    rw [hlen]
    refine ⟨by rw [partsV_length, hlen], _, _, rfl, by omega, fun e => ?_, fun hpos => ?_⟩
    · by_cases h : cap = lo
      · omega
      · rw [if_neg h] at e
        have : a = none := by cases a with
          | none => rfl
          | some x => cases e
        obtain ⟨_, a', cap', hv, hc', hz, _⟩ := hr
        simp only [Value.slice.injEq] at hv
        obtain ⟨rfl, _, rfl⟩ := hv
        have := hz this
        omega
    · obtain ⟨b, off, rfl, _, _, hbl, _⟩ := hr.at (Below.refl _ _) (show 0 < l.length by omega)
      rw [if_neg (by omega)]
      refine ⟨b, off + lo * 3, by simp [Addr.add], hbl, fun i hi' => ?_⟩
      obtain ⟨_, a', cap', hv, _, _, hcell⟩ := hr
      simp only [Value.slice.injEq] at hv
      obtain ⟨e1, _, _⟩ := hv
      obtain ⟨b', off', e2, _, hc2⟩ := hcell (by omega)
      rw [← e1] at e2
      simp only [Option.some.injEq, Addr.mk.injEq, and_true] at e2
      obtain ⟨rfl, rfl⟩ := e2
      rw [Nat.add_assoc, hc2 _ (by omega)]
      unfold piece
      have h5 := partsV_append ((l.drop lo).take (hi - lo)) ((l.drop lo).drop (hi - lo))
      rw [List.take_append_drop] at h5
      have h6 : (partsV ((l.drop lo).take (hi - lo)))[i]? = (partsV (l.drop lo))[i]? := by
        rw [h5, List.getElem?_append_left (by rw [partsV_length, List.length_take, List.length_drop]; omega)]
      rw [h6, partsV_split l lo i (by omega)]
end Go.Proofs.YtbhicblkgjgenaaDoor
namespace Go.Proofs.YtbhicblkgjgenaaDoor
set_option linter.all false

/-- May a part be what a rule seeks, by its kind and its word alone? -/
def alikeZ (r : RuleM) (p : Prt) : Bool := match r.fnd[0]? with
  | some q => q.1 == 26 || (q.1 == 50 || (q.1 == p.1 && decide (q.2.2 = p.2.2)))
  | none => true
theorem alike_no {r : RuleM} {l : List Prt} {i : Nat} (hi : i < l.length) (h : alikeZ r l[i] = false) : atZ r l i = none := by
  unfold alikeZ at h
  cases hf : r.fnd[0]? with
  | none => rw [hf] at h; cases h
  | some q =>
    rw [hf] at h
    simp only [Bool.or_eq_false_iff, beq_eq_false_iff_ne] at h
    obtain ⟨h1, h2, h3⟩ := h
    have hn : holeOf r.fnd r.holes 0 = none := by
      unfold holeOf
      rw [List.findIdx?_eq_none_iff]
      intro g _
      unfold standsAt
      rw [hf]
      cases isStmt g.2 with
      | true =>
        rw [if_pos rfl]
        cases r.fnd[0 + 1]? with
        | none => rfl
        | some b => simp [h2]
      | false => simp [h1]
    have ha : alikeP r.fnd l 0 i = false := by
      unfold alikeP
      rw [hf, List.getElem?_eq_getElem hi]
      exact h3
    unfold atZ
    split
    · rw [show ((i : Int)).toNat = i by omega]
      unfold fuelZ
      rw [aPart]
      have ho : oneOf r.fnd r.holes 0 = none := by unfold oneOf; rw [hn]
      rw [ho, ha]
      rfl
    · rfl
theorem one_piece {rules : List RuleM} {l : List Prt} (hl : wellB l = true) {i n : Nat} (hi : i < l.length) {r : RuleM} (hr : rules[n]? = some r) :
    oneM rules l i n = match atZ r (piece l i (endB l i)) 0 with
      | some τ => [(n, i, (bindsOf r.holes τ).map fun b => (b.1, b.2.1 + (i : Int), b.2.2 + (i : Int)))]
      | none => [] := by
  unfold oneM
  rw [hr]
  simp only []
  rw [atZ_part hl hi]
  cases h : atZ r (piece l i (endB l i)) 0 with
  | none => rfl
  | some τ => simp only [Option.map_some]; rw [binds_shift _ _ _ (atZ_all h)]
theorem one_no {rules : List RuleM} {l : List Prt} {i n : Nat} (hi : i < l.length) {r : RuleM} (hr : rules[n]? = some r) (h : alikeZ r l[i] = false) : oneM rules l i n = [] := by
  unfold oneM
  rw [hr]
  simp only []
  rw [alike_no hi h]
/-- What is found ahead of the rule n at the part i. -/
def accM (rules : List RuleM) (l : List Prt) (i n : Nat) : List Mch := (List.range i).flatMap (atM rules l) ++ (List.range n).flatMap (oneM rules l i)
theorem accM_step (rules : List RuleM) (l : List Prt) (i n : Nat) : accM rules l i (n + 1) = accM rules l i n ++ oneM rules l i n := by
  unfold accM; rw [List.range_succ, List.flatMap_append, List.append_assoc]; simp
theorem accM_next (rules : List RuleM) (l : List Prt) (i : Nat) : accM rules l (i + 1) 0 = accM rules l i rules.length := by
  unfold accM; rw [List.range_succ, List.flatMap_append]; simp [atM]
theorem accM_all (rules : List RuleM) (l : List Prt) : accM rules l l.length 0 = allM rules l := by
  unfold accM allM; simp
theorem accM_none (rules : List RuleM) (l : List Prt) : accM rules l 0 0 = [] := rfl
end Go.Proofs.YtbhicblkgjgenaaDoor
namespace Go.Proofs.YtbhicblkgjgenaaDoor
set_option linter.all false

def shiftB (d : Nat) (b : Bnd) : Bnd := (b.1, b.2.1 + (d : Int), b.2.2 + (d : Int))
theorem binds_small {r : RuleM} {l : List Prt} {i : Int} {τ : MSt} (h : atZ r l i = some τ) (hl : l.length ≤ 1048576) : (bindsOf r.holes τ).length = r.holes.length ∧ ∀ b ∈ bindsOf r.holes τ, (0 ≤ b.2.1 ∧ b.2.1 ≤ 1048576) ∧ (0 ≤ b.2.2 ∧ b.2.2 ≤ 1048576) := by
  obtain ⟨h1, h2, h3, h4, h5, h6, h7⟩ := atZ_inv h
  refine ⟨by unfold bindsOf; rw [List.length_zipWith, h6, Nat.min_self], fun b hb => ?_⟩
  obtain ⟨k, hk, rfl⟩ := List.mem_iff_getElem.1 hb
  have hk2 : k < r.holes.length := by unfold bindsOf at hk; rw [List.length_zipWith] at hk; omega
  obtain ⟨q, hq, hg⟩ := h7 k hk2
  have hk3 : k < τ.length := by omega
  have e : τ[k] = some q := by rw [List.getElem?_eq_getElem hk3] at hq; exact Option.some.inj hq
  have e2 : (bindsOf r.holes τ)[k] = ((r.holes[k]).1, (q.1 : Int), (q.2 : Int)) := by
    apply Option.some.inj
    rw [← List.getElem?_eq_getElem hk]
    unfold bindsOf
    rw [List.getElem?_zipWith, List.getElem?_eq_getElem hk2, List.getElem?_eq_getElem hk3, e]
    rfl
  rw [e2]
  have he := (endB_gt (well_rows h2) (show i.toNat < l.length by omega)).2
  obtain ⟨g1, g2, g3, _⟩ := hg
  simp only []
  omega
end Go.Proofs.YtbhicblkgjgenaaDoor
