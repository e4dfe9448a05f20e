/- Layer 17: what a step of the search reads. -/
import Derived.Test.YtbhicblkgjgenaaGreatDoorSeekCM
import Derived.Test.YtbhicblkgjgenaaGreatDoorRulePM
import Derived.Test.YtbhicblkgjgenaaGreatDoorUpsPM
import Derived.Test.YtbhicblkgjgenaaGreatDoorRuleCheckM
import Derived.BigQuiet
import Derived.Deep.QuietTactic
namespace Go.Proofs.YtbhicblkgjgenaaGreatDoor
set_option linter.all false
attribute [local irreducible] Calls
open Go.RowKit

theorem sk_bind (E : SkE) (ok : SkOK E) (w : World) (σ : MSt) (hi : SkIn E σ w) (h : Nat) (hh : h < E.hs.length) (a b : Nat) (h1 : a ≤ b) (h2 : b ≤ E.l.length) (K : MSt → Option MSt) (tv : Value) (ht : ThenOK E K tv w) :
    Calls Tryz.prog 63 #[.pointer (some ⟨E.g, 0, none⟩), .int .i64 (h : Int), .int .i64 (a : Int), .int .i64 (b : Int), tv] w (seekPost E ((bindS E.l σ h a b).bind K) σ w) := by
  have hl : h < σ.length := by rw [hi.n]; exact hh
  cases ho : σ[h] with
  | some q => exact sk_bind_old E ok w σ hi h hh a b h1 h2 K tv ht q (by rw [List.getElem?_eq_getElem hl, ho])
  | none => exact sk_bind_new E ok w σ hi h hh a b h1 h2 K tv ht (by rw [List.getElem?_eq_getElem hl, ho])
theorem row_ints {w : World} {v : Value} {k : IntKind} {xs : List Int} (h : RowInts w v k xs) (hp : 0 < xs.length) : ∃ b off cap, v = .slice (some ⟨b, off, none⟩) xs.length cap ∧ xs.length ≤ cap ∧ ∀ i (hi : i < xs.length), w.cell? ⟨b, off + i, none⟩ = some (.int k xs[i]) := by
  obtain ⟨a, cap, hv, hc, hrow⟩ := h.open'
  obtain ⟨b, off, rfl, _, hcell⟩ := hrow hp
  exact ⟨b, off, cap, hv, hc, hcell⟩
/-- The ends of the parts, in whatever world comes. -/
theorem SkStat.ends {E : SkE} {w : World} (h : SkStat E w) {L : List Prt} {v : Value} (hv : ∀ w', KeptX E w w' → RowInts w' v .i64 (endsL L)) (hp : 0 < L.length) : ∃ b off cap, v = .slice (some ⟨b, off, none⟩) L.length cap ∧ L.length ≤ cap ∧ ∀ w', KeptX E w w' → ∀ i, i < L.length → w'.cell? ⟨b, off + i, none⟩ = some (.int .i64 (endB L i : Int)) := by
  have hl := endsL_length L
  obtain ⟨b, off, cap, e, hc, _⟩ := row_ints (hv w (KeptX.refl _ _)) (by omega)
  rw [hl] at e hc
  refine ⟨b, off, cap, e, hc, fun w' hk i hi => ?_⟩
  obtain ⟨b', off', cap', e', _, hcell⟩ := row_ints (hv w' hk) (by omega)
  rw [e, hl] at e'
  simp only [Value.slice.injEq, Option.some.injEq, Addr.mk.injEq, and_true, true_and] at e'
  obtain ⟨⟨rfl, rfl⟩, rfl⟩ := e'
  rw [hcell i (by omega)]
  have := endsL_get hi
  rw [List.getElem?_eq_getElem (by omega)] at this
  rw [Option.some.inj this]
/-- The parts of a list, in whatever world comes. -/
theorem SkStat.parts {E : SkE} {w : World} (h : SkStat E w) {L : List Prt} {v : Value} (hv : ∀ w', KeptX E w w' → PartRow w' v L) (hp : 0 < L.length) : ∃ b off cap, v = .slice (some ⟨b, off, none⟩) L.length cap ∧ L.length ≤ cap ∧ ∀ w', KeptX E w w' → ∀ i (hi : i < L.length), w'.cell? ⟨b, off + i * 3, none⟩ = some (.int .u8 (L[i].1 : Int)) ∧ w'.cell? ⟨b, off + i * 3 + 2, none⟩ = some (.string L[i].2.2) := by
  obtain ⟨a, cap, e, hc⟩ := (hv w (KeptX.refl _ _)).slice
  have h1 := hv w (KeptX.refl _ _)
  rw [e] at h1
  obtain ⟨b, off, rfl, _, _, _, _⟩ := h1.at (Below.refl _ _) hp
  refine ⟨b, off, cap, e, hc, fun w' hk i hi => ?_⟩
  have h2 := hv w' hk
  rw [e] at h2
  obtain ⟨b', off', e', _, _, _, hcell⟩ := h2.at (Below.refl _ _) hp
  simp only [Option.some.injEq, Addr.mk.injEq, and_true] at e'
  obtain ⟨rfl, rfl⟩ := e'
  exact ⟨(hcell i hi).1, (hcell i hi).2.2⟩
/-- A part is sought. -/
def PartC (E : SkE) (n : Nat) : Prop := ∀ (w : World) (σ : MSt) (p i : Nat) (K : MSt → Option MSt) (tv : Value), SkIn E σ w → p < E.f.length → i < E.l.length → 2 * (endB E.f p - p) ≤ n → ThenOK E K tv w →
  Calls Tryz.prog 40 #[.pointer (some ⟨E.g, 0, none⟩), .int .i64 (p : Int), .int .i64 (i : Int), tv] w (seekPost E (sPart E.f E.l E.hs n p i K σ) σ w)
/-- Parts in a row are sought. -/
def KidsC (E : SkE) (n : Nat) : Prop := ∀ (w : World) (σ : MSt) (p pend i iend : Nat) (K : MSt → Option MSt) (tv : Value) (J M : Nat), SkIn E σ w → pend ≤ E.f.length → advT E.f J p pend = some pend → iend ≤ E.l.length → advT E.l M i iend = some iend → 2 * (pend - p) + 1 ≤ n → ThenOK E K tv w →
  Calls Tryz.prog 64 #[.pointer (some ⟨E.g, 0, none⟩), .int .i64 (p : Int), .int .i64 (pend : Int), .int .i64 (i : Int), .int .i64 (iend : Int), tv] w (seekPost E (sKids E.f E.l E.hs n p pend i iend K σ) σ w)
end Go.Proofs.YtbhicblkgjgenaaGreatDoor
namespace Go.Proofs.YtbhicblkgjgenaaGreatDoor
set_option linter.all false

/-- A match: the rule, the part, the binds. -/
abbrev Mch := Nat × Nat × List Bnd
def oneM (rules : List RuleM) (l : List Prt) (i n : Nat) : List Mch := match rules[n]? with
  | some r => (match atZ r l i with
    | some τ => [(n, i, bindsOf r.holes τ)]
    | none => [])
  | none => []
/-- All matches at a part. -/
def atM (rules : List RuleM) (l : List Prt) (i : Nat) : List Mch := (List.range rules.length).flatMap (oneM rules l i)
/-- All matches. -/
def allM (rules : List RuleM) (l : List Prt) : List Mch := (List.range l.length).flatMap (atM rules l)
/-- The first error of rules. -/
def firstErr : List RuleM → Int
  | [] => 0
  | r :: t => if ruleZ r = 0 then firstErr t else ruleZ r
/-- What forbids a search. -/
def findErr (rules : List RuleM) (l : List Prt) : Int := if wellB l = false then 8 else if 32 < rules.length then 14 else firstErr rules
def findZ (rules : List RuleM) (l : List Prt) : List Mch × Int := if findErr rules l = 0 then (allM rules l, 0) else ([], findErr rules l)
theorem firstErr_zero : ∀ {rules : List RuleM}, firstErr rules = 0 ↔ ∀ r ∈ rules, ruleZ r = 0
  | [] => by simp [firstErr]
  | r :: t => by
    rw [firstErr]
    by_cases h : ruleZ r = 0
    · rw [if_pos h, firstErr_zero]; simp [h]
    · rw [if_neg h]; simp [h]
theorem firstErr_app : ∀ (a b : List RuleM), firstErr (a ++ b) = if firstErr a = 0 then firstErr b else firstErr a
  | [], b => by simp [firstErr]
  | r :: t, b => by
    rw [List.cons_append, firstErr, firstErr]
    by_cases h : ruleZ r = 0
    · rw [if_pos h, if_pos h, firstErr_app t b]
    · rw [if_neg h, if_neg h, if_neg h]
theorem findErr_zero {rules : List RuleM} {l : List Prt} : findErr rules l = 0 ↔ wellB l = true ∧ rules.length ≤ 32 ∧ ∀ r ∈ rules, ruleZ r = 0 := by
  unfold findErr
  cases hw : wellB l with
  | false => simp
  | true =>
    rw [if_neg (by simp)]
    by_cases h : 32 < rules.length
    · rw [if_pos h]; constructor
      · intro h; omega
      · intro h; omega
    · rw [if_neg h, firstErr_zero]
      constructor
      · intro g; exact ⟨rfl, by omega, g⟩
      · intro g; exact g.2.2
theorem mem_oneM {rules : List RuleM} {l : List Prt} {i n : Nat} {m : Mch} : m ∈ oneM rules l i n ↔ ∃ r τ, rules[n]? = some r ∧ atZ r l i = some τ ∧ m = (n, i, bindsOf r.holes τ) := by
  unfold oneM
  cases hr : rules[n]? with
  | none => simp
  | some r =>
    simp only []
    cases ha : atZ r l i with
    | none => simp [ha]
    | some τ => simp [ha]
theorem mem_allM {rules : List RuleM} {l : List Prt} {m : Mch} : m ∈ allM rules l ↔ m.2.1 < l.length ∧ ∃ r τ, rules[m.1]? = some r ∧ atZ r l m.2.1 = some τ ∧ m.2.2 = bindsOf r.holes τ := by
  unfold allM atM
  simp only [List.mem_flatMap, List.mem_range]
  constructor
  · rintro ⟨i, hi, n, hn, h⟩
    obtain ⟨r, τ, h1, h2, rfl⟩ := mem_oneM.1 h
    exact ⟨hi, r, τ, h1, h2, rfl⟩
  · rintro ⟨h0, r, τ, h1, h2, h3⟩
    obtain ⟨n, i, b⟩ := m
    refine ⟨i, h0, n, ?_, mem_oneM.2 ⟨r, τ, h1, h2, by rw [← h3]⟩⟩
    exact (List.getElem?_eq_some_iff.1 h1).1
/-- All matches are told apart by their rule and their part. -/
theorem allM_apart (rules : List RuleM) (l : List Prt) : (allM rules l).Pairwise fun a b => a.2.1 < b.2.1 ∨ (a.2.1 = b.2.1 ∧ a.1 < b.1) := by
  unfold allM
  apply pair_flat
  · intro i hi
    unfold atM
    apply pair_flat
    · intro n hn
      unfold oneM
      split
      · split <;> simp
      · simp
    · refine List.Pairwise.imp_of_mem ?_ List.pairwise_lt_range
      intro a b ha hb hab x hx y hy
      obtain ⟨_, _, _, _, rfl⟩ := mem_oneM.1 hx
      obtain ⟨_, _, _, _, rfl⟩ := mem_oneM.1 hy
      exact Or.inr ⟨rfl, hab⟩
  · refine List.Pairwise.imp_of_mem ?_ List.pairwise_lt_range
    intro a b ha hb hab x hx y hy
    unfold atM at hx hy
    rw [List.mem_flatMap] at hx hy
    obtain ⟨_, _, hx⟩ := hx
    obtain ⟨_, _, hy⟩ := hy
    obtain ⟨_, _, _, _, rfl⟩ := mem_oneM.1 hx
    obtain ⟨_, _, _, _, rfl⟩ := mem_oneM.1 hy
    exact Or.inl hab
/-- How many matches say so. -/
def cntM {α : Type} (q : α → Bool) (l : List α) : Nat := (l.filter q).length
theorem cnt_one {α : Type} {R : α → α → Prop} {q : α → Bool} : ∀ {l : List α}, l.Pairwise R → ∀ {x : α}, x ∈ l → q x = true → (∀ y ∈ l, q y = true → y = x) → (∀ y, ¬ R y y) → cntM q l = 1
  | [], _, x, hx, _, _, _ => by cases hx
  | a :: l, hp, x, hx, hq, hu, hi => by
    rw [List.pairwise_cons] at hp
    unfold cntM
    rw [List.filter_cons]
    by_cases h : q a = true
    · rw [if_pos h, List.length_cons]
      have e := hu a (by simp) h
      subst e
      have : l.filter q = [] := by
        rw [List.filter_eq_nil_iff]
        intro y hy hqy
        have := hu y (by simp [hy]) hqy
        subst this
        exact hi _ (hp.1 _ hy)
      rw [this]; rfl
    · rw [if_neg h]
      rcases List.mem_cons.1 hx with rfl | hx
      · exact absurd hq h
      · exact cnt_one hp.2 hx hq (fun y hy => hu y (by simp [hy])) hi
/-- Rules the other way round. -/
theorem allM_back {rules : List RuleM} {l : List Prt} {n i : Nat} {b : List Bnd} (hn : n < rules.length) : (n, i, b) ∈ allM rules l ↔ (rules.length - 1 - n, i, b) ∈ allM rules.reverse l := by
  rw [mem_allM, mem_allM]
  simp only []
  have e : rules.reverse[rules.length - 1 - n]? = rules[n]? := by
    rw [List.getElem?_reverse (by omega)]
    congr 1; omega
  rw [e]
theorem findErr_back (rules : List RuleM) (l : List Prt) : findErr rules l = 0 ↔ findErr rules.reverse l = 0 := by
  rw [findErr_zero, findErr_zero]; simp
theorem allM_added (rules : List RuleM) (more : RuleM) (l : List Prt) : (allM (rules ++ [more]) l).filter (fun m => decide (m.1 < rules.length)) = allM rules l := by
  unfold allM
  rw [List.filter_flatMap]
  congr 1
  funext i
  unfold atM
  rw [List.filter_flatMap, List.length_append, List.length_singleton, List.range_succ, List.flatMap_append]
  have h1 : ∀ n, n < rules.length → (oneM (rules ++ [more]) l i n).filter (fun m => decide (m.1 < rules.length)) = oneM rules l i n := by
    intro n hn
    have e : oneM (rules ++ [more]) l i n = oneM rules l i n := by unfold oneM; rw [List.getElem?_append_left hn]
    rw [e, List.filter_eq_self]
    intro m hm
    obtain ⟨_, _, _, _, rfl⟩ := mem_oneM.1 hm
    simpa using hn
  have h2 : (oneM (rules ++ [more]) l i rules.length).filter (fun m => decide (m.1 < rules.length)) = [] := by
    rw [List.filter_eq_nil_iff]
    intro m hm
    obtain ⟨_, _, _, _, rfl⟩ := mem_oneM.1 hm
    simp
  simp only [List.flatMap_cons, List.flatMap_nil, List.append_nil, h2]
  rw [List.flatMap_def, List.flatMap_def]
  congr 1
  apply List.map_congr_left
  intro n hn
  exact h1 n (List.mem_range.1 hn)
/-- Matches within a part. -/
def shiftM (d : Nat) (m : Mch) : Mch := (m.1, m.2.1 + d, m.2.2.map fun b => (b.1, b.2.1 + (d : Int), b.2.2 + (d : Int)))
theorem binds_shift (d : Nat) : ∀ (hs : List Hl) (σ : MSt), (∀ o ∈ σ, o ≠ none) → bindsOf hs (shift d σ) = (bindsOf hs σ).map fun b => (b.1, b.2.1 + (d : Int), b.2.2 + (d : Int))
  | [], _, _ => by unfold bindsOf; simp
  | h :: hs, [], _ => by unfold bindsOf shift; simp
  | h :: hs, o :: σ, hn => by
    have ih := binds_shift d hs σ (fun o ho => hn o (by simp [ho]))
    unfold bindsOf at ih ⊢
    unfold shift at ih ⊢
    rw [List.map_cons, List.zipWith_cons_cons, List.zipWith_cons_cons, List.map_cons, ih]
    congr 1
    cases o with
    | none => exact absurd rfl (hn none (by simp))
    | some q => simp [bindOf]
theorem atZ_all {r : RuleM} {l : List Prt} {i : Int} {τ : MSt} (h : atZ r l i = some τ) : ∀ o ∈ τ, o ≠ none := by
  obtain ⟨_, _, _, _, _, h6, h7⟩ := atZ_inv h
  intro o ho e
  obtain ⟨k, hk, rfl⟩ := List.mem_iff_getElem.1 ho
  obtain ⟨q, hq, _⟩ := h7 k (by omega)
  rw [List.getElem?_eq_getElem hk, e] at hq
  cases hq
theorem range_from (n d : Nat) : List.range' d n = (List.range n).map (· + d) := by
  rw [List.range_eq_range']
  apply List.ext_getElem
  · simp
  · intro k h1 h2; simp; omega
theorem atM_within {rules : List RuleM} {l : List Prt} (hl : wellB l = true) {i : Nat} (hi : i < l.length) {j : Nat} (hj : j < (piece l i (endB l i)).length) : atM rules l (j + i) = (atM rules (piece l i (endB l i)) j).map (shiftM i) := by
  have hw := well_rows hl
  have hg := endB_gt hw hi
  have hp := piece_well hw hi
  have hS := piece_sits hw (show i ≤ endB l i by omega) (wellB_iff.1 hp.1)
  have hgp := endB_gt (wellB_iff.1 hp.1) hj
  have hpc : piece l (j + i) (endB l (j + i)) = piece (piece l i (endB l i)) j (endB (piece l i (endB l i)) j) := by
    rw [hS.end_ hj, hS.pc hgp.2]
  unfold atM
  rw [List.map_flatMap]
  congr 1
  funext n
  unfold oneM
  cases hr : rules[n]? with
  | none => rfl
  | some r =>
    simp only []
    have h1 := atZ_part (r := r) hl (i := j + i) (by omega)
    have h2 := atZ_part (r := r) hp.1 (i := j) hj
    rw [hpc] at h1
    rw [h1, h2]
    cases ha : atZ r (piece (piece l i (endB l i)) j (endB (piece l i (endB l i)) j)) 0 with
    | none => rfl
    | some τ =>
      simp only [Option.map_some, List.map_cons, List.map_nil]
      have hn := atZ_all ha
      rw [binds_shift _ _ _ hn, binds_shift _ _ _ hn]
      unfold shiftM
      simp only [List.map_map, List.cons.injEq, Prod.mk.injEq, and_true, true_and]
      congr 1
      funext b
      simp; omega
theorem allM_within {rules : List RuleM} {l : List Prt} (hl : wellB l = true) {i : Nat} (hi : i < l.length) : (allM rules l).filter (fun m => decide (i ≤ m.2.1 ∧ m.2.1 < endB l i)) = (allM rules (piece l i (endB l i))).map (shiftM i) := by
  have hw := well_rows hl
  have hg := endB_gt hw hi
  have hp := piece_well hw hi
  unfold allM
  rw [List.filter_flatMap, List.map_flatMap]
  have h0 : List.range l.length = List.range' 0 i ++ (List.range' i (endB l i - i) ++ List.range' (endB l i) (l.length - endB l i)) := by
    rw [List.range_eq_range']
    have e1 := List.range'_append (s := i) (m := endB l i - i) (n := l.length - endB l i) (step := 1)
    rw [Nat.one_mul, show i + (endB l i - i) = endB l i by omega] at e1
    rw [e1]
    have e2 := List.range'_append (s := 0) (m := i) (n := endB l i - i + (l.length - endB l i)) (step := 1)
    rw [Nat.one_mul, Nat.zero_add] at e2
    rw [e2]
    congr 1; omega
  have hat : ∀ j m, m ∈ atM rules l j → m.2.1 = j := by
    intro j m hm
    unfold atM at hm
    rw [List.mem_flatMap] at hm
    obtain ⟨_, _, hm⟩ := hm
    obtain ⟨_, _, _, _, rfl⟩ := mem_oneM.1 hm
    rfl
  have hno : ∀ j, ¬ (i ≤ j ∧ j < endB l i) → (atM rules l j).filter (fun m => decide (i ≤ m.2.1 ∧ m.2.1 < endB l i)) = [] := by
    intro j hj
    rw [List.filter_eq_nil_iff]
    intro m hm
    rw [hat j m hm]; simpa using hj
  have hyes : ∀ j, i ≤ j ∧ j < endB l i → (atM rules l j).filter (fun m => decide (i ≤ m.2.1 ∧ m.2.1 < endB l i)) = atM rules l j := by
    intro j hj
    rw [List.filter_eq_self]
    intro m hm
    rw [hat j m hm]; simpa using hj
  rw [h0, List.flatMap_append, List.flatMap_append]
  have z1 : (List.range' 0 i).flatMap (fun j => (atM rules l j).filter (fun m => decide (i ≤ m.2.1 ∧ m.2.1 < endB l i))) = [] := by
    rw [List.flatMap_eq_nil_iff]
    intro j hj
    rw [List.mem_range'_1] at hj
    exact hno j (by omega)
  have z2 : (List.range' (endB l i) (l.length - endB l i)).flatMap (fun j => (atM rules l j).filter (fun m => decide (i ≤ m.2.1 ∧ m.2.1 < endB l i))) = [] := by
    rw [List.flatMap_eq_nil_iff]
    intro j hj
    rw [List.mem_range'_1] at hj
    exact hno j (by omega)
  rw [z1, z2, List.nil_append, List.append_nil, range_from, List.flatMap_map, hp.2, List.flatMap_def, List.flatMap_def]
  congr 1
  apply List.map_congr_left
  intro j hj
  rw [List.mem_range] at hj
  rw [hyes _ (by omega)]
  exact atM_within hl hi (by rw [hp.2]; exact hj)
end Go.Proofs.YtbhicblkgjgenaaGreatDoor
namespace Go.Proofs.YtbhicblkgjgenaaGreatDoor
set_option linter.all false
attribute [local irreducible] Calls
open Go.RowKit

/-- Some number, some truth: the memory that was stays. -/
@[irreducible] def AnyInt (w0 : World) (e : Ending) (w' : World) : Prop := ∃ z : Int, e = .returned (.int .i64 z) ∧ Below w0.heap.size w0 w'
@[irreducible] def AnyBool (w0 : World) (e : Ending) (w' : World) : Prop := ∃ x : Bool, e = .returned (.bool x) ∧ Below w0.heap.size w0 w'
theorem AnyInt.mk {w0 w' : World} (z : Int) (h : Below w0.heap.size w0 w') : AnyInt w0 (.returned (.int .i64 z)) w' := by unfold AnyInt; exact ⟨z, rfl, h⟩
theorem AnyBool.mk {w0 w' : World} (x : Bool) (h : Below w0.heap.size w0 w') : AnyBool w0 (.returned (.bool x)) w' := by unfold AnyBool; exact ⟨x, rfl, h⟩
theorem AnyInt.out {w0 w' : World} {e : Ending} (h : AnyInt w0 e w') : ∃ z : Int, e = .returned (.int .i64 z) ∧ Below w0.heap.size w0 w' := by unfold AnyInt at h; exact h
theorem AnyBool.out {w0 w' : World} {e : Ending} (h : AnyBool w0 e w') : ∃ x : Bool, e = .returned (.bool x) ∧ Below w0.heap.size w0 w' := by unfold AnyBool at h; exact h
set_option maxRecDepth 100000 in
set_option maxHeartbeats 4000000 in
theorem ref_Several (s : ByteArray) (k : Nat) (w : World) :
    Calls Tryz.prog 23 #[.agg #[.string s, .int .u8 (k : Int)]] w fun e w' => e = .returned (.bool (isSev k)) ∧ Below w.heap.size w w' := by
  have HX := Lib.hid ((Below.refl w.heap.size w).alloc (Nat.le_refl _) (.cells #[.string s, .int .u8 (k : Int)] 43))
  have HQ : RowKit.Hid (∀ x w', isSev k = x → Below w.heap.size w w' → (fun (e : Ending) w' => e = .returned (.bool (isSev k)) ∧ Below w.heap.size w w') (.returned (.bool x)) w') := Lib.hid fun x w' h hb => ⟨by rw [h], hb⟩
  generalize (fun (e : Ending) w' => e = .returned (.bool (isSev k)) ∧ Below w.heap.size w w') = Q at *
  by_cases h6 : k = 6
  · subst h6
    have HZ := Lib.hid (HQ.out true _ rfl HX.out)
    go_enter Tryz.func23, Tryz.ntmps23
    go_wp2_with fail
    exact HZ.out
  by_cases h7 : k = 7
  · subst h7
    have HZ := Lib.hid (HQ.out true _ rfl HX.out)
    go_enter Tryz.func23, Tryz.ntmps23
    go_wp2_with fail
    exact HZ.out
  have g6 : ((k : Int) == 6) = false := by rw [beq_eq_false_iff_ne]; omega
  have g7 : ((k : Int) == 7) = false := by rw [beq_eq_false_iff_ne]; omega
  have HZ := Lib.hid (HQ.out false _ (by unfold isSev; simp [h6, h7]) HX.out)
  clear h6 h7
  go_enter Tryz.func23, Tryz.ntmps23
  go_wp2_with fail
  exact HZ.out
def wdRel (l : List Prt) (w : World) (nv iv : Value) (wr : World) : Prop := ∃ k : Nat, iv = .int .i64 (k : Int) ∧ nv = .int .i64 (widest (l.take k)) ∧ k ≤ l.length ∧ wr = w
theorem widest_snoc {l : List Prt} {k : Nat} (hk : k < l.length) : widest (l.take (k + 1)) = max (widest (l.take k)) (l[k]).2.1 := by
  rw [take_snoc hk]; unfold widest; rw [List.foldl_append]; rfl
set_option maxRecDepth 100000 in
set_option maxHeartbeats 4000000 in
theorem ref_Widest (l : List Prt) (hl : l.length ≤ 1048576) (v : Value) (w : World) (hr : PartRow w v l) :
    Calls Tryz.prog 43 #[v] w fun e w' => e = .returned (.int .i64 (widest l)) ∧ w = w' := by
  have HR := Lib.hid hr
  obtain ⟨va, vc, rfl, hvc⟩ := hr.slice
  clear hr
  go_enter Tryz.func43, Tryz.ntmps43
  go_wp2_with fail
  go_loopw [3, 4] (fun nv iv wr => wdRel l w nv iv wr) (fun _ iv _ => l.length - (intOf iv).toNat)
  case atStart => exact ⟨0, rfl, rfl, Nat.zero_le _, rfl⟩
  case round =>
    obtain ⟨k, rfl, rfl, hk, rfl⟩ := hrel
    by_cases hlt : k < l.length
    · obtain ⟨b, off, rfl, _, _, hbl, hcell⟩ := HR.out.at (Below.refl _ _) (show 0 < l.length by omega)
      obtain ⟨d0, d1, d2⟩ := hcell k hlt
      have hk0 : (0 : Int) ≤ (k : Int) := by omega
      have hkl : (k : Int) < l.length := by omega
      have hkc : (k : Int) < vc := by omega
      have HX : RowKit.Hid (wdRel l wr (.int .i64 (max (widest (l.take k)) (l[k]).2.1)) (.int .i64 ((k : Int) + 1)) wr) := Lib.hid ⟨k + 1, by push_cast; rfl, by rw [widest_snoc hlt], hlt, rfl⟩
      clear hcell d0 d2
      generalize (l[k]).2.1 = c at *
      generalize widest (l.take k) = m at *
      go_wp2_with fail
      exact ⟨HX.out, by simp only [intOf]; omega⟩
    · obtain rfl : k = l.length := by omega
      rw [List.take_length]
      go_wp2_with fail
      go_ret
      exact ⟨rfl, rfl⟩
def wyRel (n : Nat) (W0 : World) (nv iv : Value) (wr : World) : Prop := ∃ (k : Nat) (z : Int), iv = .int .i64 (k : Int) ∧ nv = .int .i64 z ∧ k ≤ n ∧ Below W0.heap.size W0 wr
set_option maxRecDepth 100000 in
set_option maxHeartbeats 4000000 in
theorem ref_Ways17 (r : RuleM) (hh : r.holes.length ≤ 1048576) (vh vf vb : Value) (l : List Prt) (hl : l.length ≤ 1048576) (vl : Value) (w : World) (hr : RuleIn w r vh vf vb) (hlr : PartRow w vl l) :
    Calls Tryz.prog 16 #[ruleAgg r vh vf vb, vl] w (AnyInt w) := by
  obtain ⟨ah, ch, rfl, hch⟩ := Row.shape hr.H
  obtain ⟨af, cf, rfl, hcf⟩ := hr.F.slice
  obtain ⟨ab, cb, rfl, hcb⟩ := hr.B.slice
  obtain ⟨al, cl, rfl, hcl⟩ := hlr.slice
  have HQ : RowKit.Hid (∀ z w', Below w.heap.size w w' → AnyInt w (.returned (.int .i64 z)) w') := Lib.hid fun z w' hb => AnyInt.mk z hb
  generalize AnyInt w = Q at *
  unfold ruleAgg
  have HR1 : RowKit.Hid (RK (w.alloc (.cells #[.string r.nm, .int .u8 (r.goal : Int), .slice ah r.holes.length ch, .slice af r.fnd.length cf, .slice ab r.by'.length cb] 25)) w.heap.size r.nm r.goal (.slice ah r.holes.length ch) (.slice af r.fnd.length cf) (.slice ab r.by'.length cb)) := Lib.hid (heap_alloc_new _ _)
  have HB1 : RowKit.Hid (Below w.heap.size w (w.alloc (.cells #[.string r.nm, .int .u8 (r.goal : Int), .slice ah r.holes.length ch, .slice af r.fnd.length cf, .slice ab r.by'.length cb] 25))) := Lib.hid ((Below.refl _ _).alloc (Nat.le_refl _) _)
  have HH := Lib.hid hr.H
  have HLR := Lib.hid hlr
  clear hr hlr
  go_enter Tryz.func16, Tryz.ntmps16
  go_wp2_with fail
  generalize w.alloc (.cells #[.string r.nm, .int .u8 (r.goal : Int), .slice ah r.holes.length ch, .slice af r.fnd.length cf, .slice ab r.by'.length cb] 25) = W0 at *
  go_loopw [5, 6] (fun nv iv wr => wyRel r.holes.length W0 nv iv wr) (fun _ iv _ => r.holes.length - (intOf iv).toNat)
  case atStart => exact ⟨0, 1, rfl, rfl, Nat.zero_le _, Below.refl _ _⟩
  case round =>
    obtain ⟨k, z, rfl, rfl, hk, hb⟩ := hrel
    have HB := Lib.hid hb
    clear hb
    obtain ⟨e0, e1, e2, e3, e4⟩ := (HR1.out.below HB.out).cells
    by_cases hlt : k < r.holes.length
    · by_cases hz : z < 1000000
      · obtain ⟨b, off, rfl, _, _, hbl, hcell⟩ := HH.out.at (bthen HB1.out HB.out) (show 0 < r.holes.length by omega)
        obtain ⟨d0, d1⟩ := hcell k hlt
        have hk0 : (0 : Int) ≤ (k : Int) := by omega
        have hkl : (k : Int) < r.holes.length := by omega
        have hkc : (k : Int) < ch := by omega
        generalize r.holes[k] = y at *
        obtain ⟨yn, yk⟩ := y
        simp only [] at d0 d1
        have CS := Lib.hid (ref_Several yn yk wr)
        clear hcell
        go_wp2_with fail
        refine CS.out.mono ?_
        rintro e w2 ⟨rfl, hb2⟩
        have HB2 := Lib.hid (bthen HB.out hb2)
        clear hb2 CS e0 e1 e2 e3 e4 d0 d1
        cases hs : isSev yk with
        | false =>
          go_wp2_with fail
          exact ⟨⟨k + 1, z, by push_cast; rfl, rfl, hlt, HB2.out⟩, by simp only [intOf]; omega⟩
        | true =>
          have CW := Lib.hid (ref_Widest l hl _ w2 (HLR.out.below (bthen HB1.out HB2.out)))
          go_wp2_with fail
          refine CW.out.mono ?_
          rintro e w3 ⟨rfl, rfl⟩
          generalize widest l = m
          go_wp2_with fail
          all_goals exact ⟨⟨k + 1, _, by push_cast; rfl, rfl, hlt, HB2.out⟩, by simp only [intOf]; omega⟩
      · have hz' : ¬ z < 1000000 := hz
        have HX := Lib.hid (HQ.out z wr (bthen HB1.out HB.out))
        have hkl : (k : Int) < r.holes.length := by omega
        go_wp2_with fail
        exact HX.out
    · obtain rfl : k = r.holes.length := by omega
      have HX := Lib.hid (HQ.out z wr (bthen HB1.out HB.out))
      go_wp2_with fail
      exact HX.out
set_option maxRecDepth 100000 in
set_option maxHeartbeats 4000000 in
theorem ref_Ways18 (rs : List RuleX) (hs : ∀ x ∈ rs, x.1.holes.length ≤ 1048576) (hn : rs.length ≤ 1048576) (vr : Value) (l : List Prt) (hl : l.length ≤ 1048576) (vl : Value) (w : World) (hr : RulesIn w vr rs) (hlr : PartRow w vl l) :
    Calls Tryz.prog 55 #[vr, vl] w (AnyInt w) := by
  obtain ⟨ar, cr, rfl, hcr⟩ := hr.shape
  obtain ⟨al, cl, rfl, hcl⟩ := hlr.slice
  have HQ : RowKit.Hid (∀ z w', Below w.heap.size w w' → AnyInt w (.returned (.int .i64 z)) w') := Lib.hid fun z w' hb => AnyInt.mk z hb
  generalize AnyInt w = Q at *
  have HS := Lib.hid hs
  have HR := Lib.hid hr
  have HLR := Lib.hid hlr
  clear hr hlr hs
  go_enter Tryz.func55, Tryz.ntmps55
  go_wp2_with fail
  go_loopw [5, 6] (fun nv iv wr => wyRel rs.length w nv iv wr) (fun _ iv _ => rs.length - (intOf iv).toNat)
  case atStart => exact ⟨0, 0, rfl, rfl, Nat.zero_le _, Below.refl _ _⟩
  case round =>
    obtain ⟨k, z, rfl, rfl, hk, hb⟩ := hrel
    have HB := Lib.hid hb
    clear hb
    by_cases hlt : k < rs.length
    · by_cases hz : k < 40
      · obtain ⟨b, off, rfl, _, _, hbl, hcell⟩ := HR.out.at HB.out (show 0 < rs.length by omega)
        obtain ⟨d0, d1, d2, d3, d4⟩ := hcell k hlt
        have hk0 : (0 : Int) ≤ (k : Int) := by omega
        have hkl : (k : Int) < rs.length := by omega
        have hkc : (k : Int) < cr := by omega
        have hk40 : (k : Int) < 40 := by omega
        have hin := HR.out.E _ (List.getElem_mem hlt)
        have hsm := HS.out _ (List.getElem_mem hlt)
        generalize rs[k] = x at *
        obtain ⟨r, vh, vf, vb⟩ := x
        simp only [] at d0 d1 d2 d3 d4 hin hsm
        have CW := Lib.hid (ref_Ways17 r hsm _ _ _ l hl _ wr (hin.below HB.out) (HLR.out.below HB.out))
        obtain ⟨ah, ch, rfl, hch⟩ := Row.shape hin.H
        obtain ⟨af, cf, rfl, hcf⟩ := hin.F.slice
        obtain ⟨ab, cb, rfl, hcb⟩ := hin.B.slice
        unfold ruleAgg at CW
        clear hcell hin hsm hz
        go_wp2_with fail
        refine CW.out.mono ?_
        intro e w2 h2
        obtain ⟨y, rfl, hb2⟩ := h2.out
        have HB2 := Lib.hid (bthen HB.out hb2)
        clear h2 hb2 CW d0 d1 d2 d3 d4
        go_wp2_with fail
        all_goals exact ⟨⟨k + 1, _, by push_cast; rfl, rfl, hlt, HB2.out⟩, by simp only [intOf]; omega⟩
      · have hk40 : ¬ (k : Int) < 40 := by omega
        have hkl : (k : Int) < rs.length := by omega
        have HX := Lib.hid (HQ.out z wr HB.out)
        go_wp2_with fail
        exact HX.out
    · obtain rfl : k = rs.length := by omega
      have HX := Lib.hid (HQ.out z wr HB.out)
      go_wp2_with fail
      exact HX.out
/-! ### are binds alike? -/
def TellsB (x : Bool) (a b : List Bnd) : Prop := x = true ↔ a = b
def sbRel (a b : List Bnd) (w : World) (iv : Value) (wr : World) : Prop := ∃ k : Nat, iv = .int .i64 (k : Int) ∧ k ≤ a.length ∧ a.take k = b.take k ∧ Below w.heap.size w wr
theorem bind_eq {x y : Bnd} : x = y ↔ x.1.toList = y.1.toList ∧ x.2.1 = y.2.1 ∧ x.2.2 = y.2.2 := by
  constructor
  · rintro rfl; exact ⟨rfl, rfl, rfl⟩
  · rintro ⟨h1, h2, h3⟩
    obtain ⟨x1, x2, x3⟩ := x
    obtain ⟨y1, y2, y3⟩ := y
    simp only [] at h1 h2 h3
    subst h2; subst h3
    by_cases h : x1 = y1
    · subst h; rfl
    · exact absurd h1 (pl_bytes_ne h)
set_option maxRecDepth 100000 in
set_option maxHeartbeats 4000000 in
theorem ref_SameBinds (a b : List Bnd) (ha : a.length ≤ 1048576) (hb : b.length ≤ 1048576) (va vb : Value) (w : World) (h1 : BindRow w va a) (h2 : BindRow w vb b) :
    Calls Tryz.prog 14 #[va, vb] w fun e w' => ∃ x, e = .returned (.bool x) ∧ TellsB x a b ∧ Below w.heap.size w w' := by
  have HQ : RowKit.Hid (∀ x w', TellsB x a b → Below w.heap.size w w' → (fun (e : Ending) w' => ∃ x, e = .returned (.bool x) ∧ TellsB x a b ∧ Below w.heap.size w w') (.returned (.bool x)) w') := Lib.hid fun x w' h h2 => ⟨x, rfl, h, h2⟩
  generalize (fun (e : Ending) w' => ∃ x, e = .returned (.bool x) ∧ TellsB x a b ∧ Below w.heap.size w w') = Q at *
  obtain ⟨aa, ac, rfl, hac⟩ := Row.shape h1
  obtain ⟨ba, bc, rfl, hbc⟩ := Row.shape h2
  have H1 := Lib.hid h1
  have H2 := Lib.hid h2
  clear h1 h2
  by_cases hlen : a.length = b.length
  case neg =>
    have HX := Lib.hid (HQ.out false w ⟨(fun h => by cases h), fun h => absurd (congrArg List.length h) hlen⟩ (Below.refl _ _))
    have g1 : ((a.length : Int) != (b.length : Int)) = true := by rw [bne_iff_ne]; omega
    have g2 : (a.length != b.length) = true := by rw [bne_iff_ne]; exact hlen
    have g3 : (a.length == b.length) = false := by rw [beq_eq_false_iff_ne]; exact hlen
    clear hlen
    go_enter Tryz.func14, Tryz.ntmps14
    go_wp2_with fail
    exact HX.out
  have HLEN := Lib.hid hlen
  have H2' : RowKit.Hid (BindRow w (.slice ba a.length bc) b) := Lib.hid (by rw [hlen]; exact H2.out)
  rw [← hlen]
  clear H2
  rw [← hlen] at hbc
  clear hlen
  go_enter Tryz.func14, Tryz.ntmps14
  go_wp2_with fail
  go_loopw [5] (fun iv wr => sbRel a b w iv wr) (fun iv _ => a.length - (intOf iv).toNat)
  case atStart => exact ⟨0, rfl, Nat.zero_le _, rfl, Below.refl _ _⟩
  case round =>
    obtain ⟨k, rfl, hk, htk, hbl⟩ := hrel
    have HB := Lib.hid hbl
    have HTK := Lib.hid htk
    clear hbl htk
    by_cases hlt : k < a.length
    · have hlb : k < b.length := by have := HLEN.out; omega
      obtain ⟨b1, o1, rfl, _, _, _, hc1⟩ := BindRow.at H1.out HB.out (show 0 < a.length by omega)
      obtain ⟨b2, o2, rfl, hxx, _, _, hc2⟩ := BindRow.at H2'.out HB.out (show 0 < b.length by omega)
      clear hxx
      obtain ⟨c0, c1, c2⟩ := hc1 k hlt
      obtain ⟨d0, d1, d2⟩ := hc2 k hlb
      have hk0 : (0 : Int) ≤ (k : Int) := by omega
      have hkl : (k : Int) < a.length := by omega
      have hka : (k : Int) < ac := by omega
      have hkb : (k : Int) < bc := by omega
      have HYES : RowKit.Hid (a[k] = b[k] → a.take (k + 1) = b.take (k + 1)) := Lib.hid (fun e => by rw [take_snoc hlt, take_snoc hlb, HTK.out, e])
      have HNO : RowKit.Hid (a[k] ≠ b[k] → a ≠ b) := Lib.hid (fun e h => by subst h; exact e rfl)
      have HBD := Lib.hid HB.out.drew
      generalize a[k] = x at *
      generalize b[k] = y at *
      obtain ⟨xn, xf, xt⟩ := x
      obtain ⟨yn, yf, yt⟩ := y
      simp only [] at c0 c1 c2 d0 d1 d2
      clear hc1 hc2
      by_cases hE : xn = yn ∧ xf = yf ∧ xt = yt
      · obtain ⟨rfl, rfl, rfl⟩ := hE
        have HTK1 := Lib.hid (HYES.out rfl)
        clear HYES HNO
        go_wp2_with fail
        go_quiet (fail)
        have HB2 := Lib.hid (drewB HB.out nq)
        have HR : RowKit.Hid (sbRel a b w (.int .i64 ((k : Int) + 1)) (wr.drewN nq)) := Lib.hid ⟨k + 1, by push_cast; rfl, hlt, HTK1.out, HB2.out⟩
        go_wp2_with fail
        exact ⟨HR.out, by simp only [intOf]; omega⟩
      · have HF : RowKit.Hid (TellsB false a b) := Lib.hid ⟨(fun e => by cases e), fun e => absurd e (HNO.out (fun e2 => hE (by simp only [Prod.mk.injEq] at e2; exact e2)))⟩
        clear HYES HNO
        have hcs : xn ≠ yn ∨ (xn = yn ∧ xf ≠ yf) ∨ (xn = yn ∧ xf = yf ∧ xt ≠ yt) := by
          by_cases q1 : xn = yn
          · by_cases q2 : xf = yf
            · exact Or.inr (Or.inr ⟨q1, q2, fun q3 => hE ⟨q1, q2, q3⟩⟩)
            · exact Or.inr (Or.inl ⟨q1, q2⟩)
          · exact Or.inl q1
        clear hE
        rcases hcs with q1 | ⟨rfl, q2⟩ | ⟨rfl, rfl, q3⟩
        · have f1 : (xn.toList == yn.toList) = false := by rw [beq_eq_false_iff_ne]; exact pl_bytes_ne q1
          go_wp2_with fail
          go_quiet (fail)
          have HX := Lib.hid (HQ.out _ _ HF.out (drewB HB.out nq))
          go_wp2_with fail
          exact HX.out
        · have f1 : (xf == yf) = false := by rw [beq_eq_false_iff_ne]; exact q2
          go_wp2_with fail
          go_quiet (fail)
          have HX := Lib.hid (HQ.out _ _ HF.out (drewB HB.out nq))
          go_wp2_with fail
          exact HX.out
        · have f1 : (xt == yt) = false := by rw [beq_eq_false_iff_ne]; exact q3
          go_wp2_with fail
          go_quiet (fail)
          have HX := Lib.hid (HQ.out _ _ HF.out (drewB HB.out nq))
          go_wp2_with fail
          exact HX.out
    · have hkl : ¬ (k : Int) < a.length := by omega
      obtain rfl : k = a.length := by omega
      have HX := Lib.hid (HQ.out true wr ⟨fun _ => by have := HTK.out; rw [List.take_length, HLEN.out, List.take_length] at this; exact this, fun _ => rfl⟩ HB.out)
      go_wp2_with fail
      exact HX.out
end Go.Proofs.YtbhicblkgjgenaaGreatDoor
