/- Layers 16 and 17 in plain Lean: which rules may be; whether a rule fits a part. -/
import Derived.Test.YtmklemelgdilkaaDoorMatchP2Mg
import Derived.Test.YtmklemelgdilkaaDoorCheckBMg
namespace Go.Proofs.YtmklemelgdilkaaDoor
set_option linter.all false

def holeB (r : RuleM) (i : Nat) : Bool := match r.holes[i]? with
 | none => true
 | some h => !(r.holes.take i).any (fun g => decide (g.1 = h.1)) && (name h.1 && (decide (1 ≤ h.2 ∧ h.2 ≤ 7) && (decide (1 ≤ placesZ r.fnd h) && decide (0 ≤ placesZ r.by' h))))
def sevN (hs : List Hl) : Nat := (hs.filter fun h => isSev h.2).length
def ruleTop (r : RuleM) : Bool := name r.nm && (decide (1 ≤ r.goal ∧ r.goal ≤ 3) && (checkB r.fnd && (checkB r.by' && !(decide (r.goal = 3) && decide (kindAt r.by' 0 ≠ 13)))))
def ruleZ (r : RuleM) : Int :=
 if ruleTop r = false then 10
 else if 16 < r.holes.length ∨ 2 < sevN r.holes then 14
 else if ∀ i, i < r.holes.length → holeB r i = true then 0 else 11
theorem checkB_inv {l : List Prt} (h : checkB l = true) : wellB l = true ∧ ∀ p (hp : p < l.length), partB l[p] = true := by
 unfold checkB at h
 simp only [Bool.and_eq_true, List.all_eq_true] at h
 exact ⟨h.1, fun p hp => h.2 _ (List.getElem_mem hp)⟩
theorem partB_leaf {p : Prt} (h : partB p = true) (hk : p.1 = 26) : p.2.1 = 0 := by
 unfold partB at h
 simp only [Bool.and_eq_true, Bool.or_eq_true, decide_eq_true_eq] at h
 rw [hk] at h
 have e : arL 26 = (0, false) := rfl
 rw [e] at h
 rcases h.2.2.1 with h1 | h1
 ·simpa using h1
 ·cases h1
theorem partB_stmt {p : Prt} (h : partB p = true) (hk : p.1 = 50) : p.2.1 = 1 := by
 unfold partB at h
 simp only [Bool.and_eq_true, Bool.or_eq_true, decide_eq_true_eq] at h
 rw [hk] at h
 have e : arL 50 = (1, false) := rfl
 rw [e] at h
 rcases h.2.2.1 with h1 | h1
 ·simpa using h1
 ·cases h1
theorem placesZ_ok {l : List Prt} {h : Hl} (h0 : 0 ≤ placesZ l h) : ∀ p (hp : p < l.length), isPlace l[p] h = true → placeOK l h.2 p = true :=
 fun p hp => placesF_ok l h l.length 0 0 (Int.le_refl _) (by omega) h0 p hp (by omega)
theorem ruleZ_inv {r : RuleM} (h : ruleZ r = 0) : name r.nm = true ∧ (1 ≤ r.goal ∧ r.goal ≤ 3) ∧ checkB r.fnd = true ∧ checkB r.by' = true ∧ (r.goal = 3 → kindAt r.by' 0 = 13) ∧ r.holes.length ≤ 16 ∧ sevN r.holes ≤ 2 ∧ ∀ i, i < r.holes.length → holeB r i = true := by
 unfold ruleZ at h
 split at h
 ·cases h
 ·rename_i h1
  split at h
  ·cases h
  ·rename_i h2
   split at h
   ·rename_i h3
    have h1 : ruleTop r = true := by simpa using h1
    unfold ruleTop at h1
    simp only [Bool.and_eq_true, Bool.not_eq_true', decide_eq_true_eq, Bool.and_eq_false_iff, decide_eq_false_iff_not] at h1
    obtain ⟨a1, a2, a3, a4, a5⟩ := h1
    refine ⟨a1, a2, a3, a4, fun e => ?_, by omega, by omega, h3⟩
    rcases a5 with a5 | a5
    ·exact absurd e a5
    ·exact Decidable.not_not.1 a5
   ·cases h
theorem holeB_inv {r : RuleM} {i : Nat} (hi : i < r.holes.length) (h : holeB r i = true) : (∀ k (hk : k < i), (r.holes[k]).1 ≠ (r.holes[i]).1) ∧ name (r.holes[i]).1 = true ∧ (1 ≤ (r.holes[i]).2 ∧ (r.holes[i]).2 ≤ 7) ∧ 1 ≤ placesZ r.fnd r.holes[i] ∧ 0 ≤ placesZ r.by' r.holes[i] := by
 unfold holeB at h
 rw [List.getElem?_eq_getElem hi] at h
 simp only [Bool.and_eq_true, decide_eq_true_eq, Bool.not_eq_true'] at h
 refine ⟨fun k hk e => ?_, h.2⟩
 have h1 := h.1
 rw [List.any_eq_false] at h1
 have h2 : k < (r.holes.take i).length := by rw [List.length_take]; omega
 have := h1 ((r.holes.take i)[k]) (List.getElem_mem h2)
 rw [List.getElem_take] at this
 simp [e] at this
theorem rule_holes {r : RuleM} (h : ruleZ r = 0) : HolesOK r.fnd r.holes ∧ HolesOK r.by' r.holes ∧ ∀ i (hi : i < r.holes.length), ∃ p, p < r.fnd.length ∧ holeOf r.fnd r.holes p = some i := by
 obtain ⟨a1, a2, a3, a4, a5, a6, a7, a8⟩ := ruleZ_inv h
 have hu : ∀ (a b : Nat) (ha : a < r.holes.length) (hb : b < r.holes.length), (r.holes[a]).1 = (r.holes[b]).1 → a = b := by
  intro a b ha hb e
  rcases Nat.lt_trichotomy a b with c | c | c
  ·exact absurd e ((holeB_inv hb (a8 b hb)).1 a c)
  ·exact c
  ·exact absurd e.symm ((holeB_inv ha (a8 a ha)).1 b c)
 have f3 := checkB_inv a3
 have f4 := checkB_inv a4
 have H1 : HolesOK r.fnd r.holes := ⟨f3.1, hu, fun p hp => partB_leaf (f3.2 p hp), fun p hp => partB_stmt (f3.2 p hp), fun i hi p hp hpl => placesZ_ok (by have := (holeB_inv hi (a8 i hi)).2.2.2.1; omega) p hp hpl⟩
 refine ⟨H1, ⟨f4.1, hu, fun p hp => partB_leaf (f4.2 p hp), fun p hp => partB_stmt (f4.2 p hp), fun i hi p hp hpl => placesZ_ok (holeB_inv hi (a8 i hi)).2.2.2.2 p hp hpl⟩, fun i hi => ?_⟩
 have h1 := (holeB_inv hi (a8 i hi)).2.2.2.1
 obtain ⟨p, hp, hpl⟩ := placesF_some r.fnd r.holes[i] r.fnd.length 0 0 (Int.le_refl _) (by omega) (by unfold placesZ at h1; omega)
 exact H1.place_at hi hp hpl
def fuelZ (f : List Prt) : Nat := 2 * f.length + 1
abbrev Bnd := ByteArray × Int × Int
theorem piece_well {l : List Prt} {us : List Nat} (hl : rowsB l = some us) {i : Nat} (hi : i < l.length) : wellB (piece l i (endB l i)) = true ∧ (piece l i (endB l i)).length = endB l i - i := by
 obtain ⟨t, ht⟩ := piece_one hl hi
 have hg := endB_gt hl hi
 have := (rowsB_sum ht).1
 simp at this
 exact ⟨by rw [wellB_iff, ht, this], piece_len (by omega) hg.2⟩
theorem piece_sits {l : List Prt} {us : List Nat} (hl : rowsB l = some us) {a b : Nat} (hab : a ≤ b) {ts : List Nat} (hp : rowsB (piece l a b) = some ts) : Sits (piece l a b) l a := ⟨⟨_, hp⟩, ⟨_, hl⟩, ⟨_, drop_piece hab⟩⟩
theorem up_of {l : List Prt} {us : List Nat} (hl : rowsB l = some us) {i k : Nat} (hi : i < l.length) (h1 : i < k) (h2 : k < endB l i) (h3 : ∀ j, i < j → j < k → endB l j ≤ k) : upN l k = (i : Int) := by
 unfold upN
 have key : ∀ m, i < m → m ≤ k → upI l k m = (i : Int) := by
  intro m
  induction m with
  | zero => intro h; omega
  | succ m ih =>
   intro h4 h5
   rw [upI]
   by_cases e : m = i
   ·subst e; rw [if_pos h2]
   ·rw [if_neg (by have := h3 m (by omega) (by omega); omega)]
    exact ih (by omega) (by omega)
 exact key k h1 (Nat.le_refl _)
theorem end_within {l : List Prt} {us : List Nat} (hl : rowsB l = some us) {i j : Nat} (hi : i < l.length) (h1 : i ≤ j) (h2 : j < endB l i) : endB l j ≤ endB l i := by
 have hp := piece_well hl hi
 have hg := endB_gt hl hi
 have hS := piece_sits hl (show i ≤ endB l i by omega) (wellB_iff.1 hp.1)
 have hx : j - i < (piece l i (endB l i)).length := by rw [hp.2]; omega
 have e1 := hS.end_ hx
 have e2 := endB_gt (wellB_iff.1 hp.1) hx
 rw [hp.2] at e2
 rw [show j - i + i = j by omega] at e1
 omega
def kidAt (l : List Prt) : Nat → Nat → Nat
 | 0, k => k
 | n + 1, k => kidAt l n (endB l k)
theorem adv_kid {l : List Prt} {k stop : Nat} : ∀ {n b : Nat}, advT l n k stop = some b → kidAt l n k = b
 | 0, b, h => by rw [advT] at h; cases h; rfl
 | n + 1, b, h => by
  rw [advT] at h
  split at h
  ·rw [kidAt]
   exact adv_kid h
  ·cases h
theorem kidAt_snoc (l : List Prt) : ∀ (n k : Nat), kidAt l (n + 1) k = endB l (kidAt l n k)
 | 0, k => rfl
 | n + 1, k => by rw [kidAt, kidAt_snoc l n (endB l k)]; rfl
theorem kids_go {l : List Prt} {us : List Nat} (hl : rowsB l = some us) {i : Nat} (hi : i < l.length) : ∃ q : Nat, (l[i]).2.1 = (q : Int) ∧ kidAt l q (i + 1) = endB l i ∧ q ≤ l.length ∧ ∀ c, c < q → i < kidAt l c (i + 1) ∧ kidAt l c (i + 1) < l.length := by
 obtain ⟨q, h1, h2⟩ := adv_kids hl hi
 have hg := endB_gt hl hi
 have hle := adv_le hl _ _ _ _ hg.2 h2
 refine ⟨q, h1, adv_kid h2, by omega, fun c hc => ?_⟩
 have h3 := h2
 rw [show q = c + (q - c) by omega, adv_add] at h3
 cases hx : advT l c (i + 1) (endB l i) with
 | none => rw [hx] at h3; cases h3
 | some x =>
  rw [hx, Option.bind_some, show q - c = (q - c - 1) + 1 by omega, advT] at h3
  rw [adv_kid hx]
  split at h3
  ·have := adv_le hl _ _ _ _ hg.2 hx
   omega
  ·cases h3
end Go.Proofs.YtmklemelgdilkaaDoor
namespace Go.Proofs.YtmklemelgdilkaaDoor
set_option linter.all false
open Go.RowKit

theorem Row.cells {w w' : World} {v : Value} {n sz : Nat} {cs : List Value} (h : Row w v n sz cs) (hb : Below w.heap.size w w') (hn : 0 < n) :
  ∃ b off cap, v = .slice (some ⟨b, off, none⟩) n cap ∧ n ≤ cap ∧ b < w.heap.size ∧ ∀ i, i < n * sz → w'.cell? ⟨b, off + i, none⟩ = cs[i]? := by
 obtain ⟨h1, a, cap, hv, hc, hz, h2⟩ := h
 obtain ⟨b, off, ha, hlt, hcell⟩ := h2 hn
 subst ha
 exact ⟨b, off, cap, hv, hc, hlt, fun i hi => by rw [hb.cell (p := ⟨b, off + i, none⟩) hlt]; exact hcell i hi⟩
theorem Row.shape {w : World} {v : Value} {n sz : Nat} {cs : List Value} (h : Row w v n sz cs) : ∃ a cap, v = .slice a n cap ∧ n ≤ cap := by
 obtain ⟨_, a, cap, hv, hc, _⟩ := h; exact ⟨a, cap, hv, hc⟩
theorem flat_at {α : Type} {g : α → List Value} {sz : Nat} (hg : ∀ x, (g x).length = sz) : ∀ (l : List α) (i j : Nat) (hi : i < l.length), j < sz → (l.flatMap g)[i * sz + j]? = (g l[i])[j]?
 | x :: l, 0, j, _, hj => by
  rw [List.flatMap_cons, Nat.zero_mul, Nat.zero_add, List.getElem?_append_left (by rw [hg]; exact hj)]; rfl
 | x :: l, i + 1, j, hi, hj => by
  have h1 : (g x).length ≤ (i + 1) * sz + j := by rw [hg, Nat.add_mul]; omega
  rw [List.flatMap_cons, List.getElem?_append_right h1, hg, show (i + 1) * sz + j - sz = i * sz + j by rw [Nat.add_mul]; omega]
  rw [flat_at hg l i j (by simpa using hi) hj]
  rfl
theorem flat_len {α : Type} {g : α → List Value} {sz : Nat} (hg : ∀ x, (g x).length = sz) : ∀ l : List α, (l.flatMap g).length = l.length * sz
 | [] => by simp
 | x :: l => by rw [List.flatMap_cons, List.length_append, hg, flat_len hg l, List.length_cons, Nat.add_mul]; omega
def holeV (h : Hl) : List Value := [.string h.1, .int .u8 (h.2 : Int)]
def holesV (hs : List Hl) : List Value := hs.flatMap holeV
def HoleRow (w : World) (v : Value) (hs : List Hl) : Prop := Row w v hs.length 2 (holesV hs)
theorem HoleRow.below {w w' : World} {v : Value} {hs : List Hl} (h : HoleRow w v hs) (hb : Below w.heap.size w w') : HoleRow w' v hs := Row.below h hb
theorem HoleRow.at {w w' : World} {a : Option Addr} {n cap : Nat} {hs : List Hl} (h : HoleRow w (.slice a n cap) hs) (hb : Below w.heap.size w w') (hp : 0 < hs.length) :
  ∃ b off, a = some ⟨b, off, none⟩ ∧ n = hs.length ∧ hs.length ≤ cap ∧ b < w.heap.size ∧ ∀ i (hi : i < hs.length), w'.cell? ⟨b, off + i * 2, none⟩ = some (.string hs[i].1) ∧ w'.cell? ⟨b, off + i * 2 + 1, none⟩ = some (.int .u8 (hs[i].2 : Int)) := by
 obtain ⟨b, off, cap', hv, hc, hlt, hcell⟩ := Row.cells h hb hp
 simp only [Value.slice.injEq] at hv
 obtain ⟨rfl, rfl, rfl⟩ := hv
 refine ⟨b, off, rfl, rfl, hc, hlt, fun i hi => ⟨?_, ?_⟩⟩
 ·rw [hcell _ (by omega)]
  have := flat_at (g := holeV) (sz := 2) (fun _ => rfl) hs i 0 hi (by omega)
  rw [Nat.add_zero] at this
  exact this
 ·rw [Nat.add_assoc, hcell _ (by omega)]
  exact flat_at (g := holeV) (sz := 2) (fun _ => rfl) hs i 1 hi (by omega)
def bindV (b : Bnd) : List Value := [.string b.1, .int .i64 b.2.1, .int .i64 b.2.2]
def bindsV (bs : List Bnd) : List Value := bs.flatMap bindV
def BindRow (w : World) (v : Value) (bs : List Bnd) : Prop := Row w v bs.length 3 (bindsV bs)
theorem BindRow.below {w w' : World} {v : Value} {bs : List Bnd} (h : BindRow w v bs) (hb : Below w.heap.size w w') : BindRow w' v bs := Row.below h hb
theorem BindRow.at {w w' : World} {a : Option Addr} {n cap : Nat} {bs : List Bnd} (h : BindRow w (.slice a n cap) bs) (hb : Below w.heap.size w w') (hp : 0 < bs.length) :
  ∃ b off, a = some ⟨b, off, none⟩ ∧ n = bs.length ∧ bs.length ≤ cap ∧ b < w.heap.size ∧ ∀ i (hi : i < bs.length), w'.cell? ⟨b, off + i * 3, none⟩ = some (.string bs[i].1) ∧ w'.cell? ⟨b, off + i * 3 + 1, none⟩ = some (.int .i64 bs[i].2.1) ∧ w'.cell? ⟨b, off + i * 3 + 2, none⟩ = some (.int .i64 bs[i].2.2) := by
 obtain ⟨b, off, cap', hv, hc, hlt, hcell⟩ := Row.cells h hb hp
 simp only [Value.slice.injEq] at hv
 obtain ⟨rfl, rfl, rfl⟩ := hv
 refine ⟨b, off, rfl, rfl, hc, hlt, fun i hi => ⟨?_, ?_, ?_⟩⟩
 ·rw [hcell _ (by omega)]
  have := flat_at (g := bindV) (sz := 3) (fun _ => rfl) bs i 0 hi (by omega)
  rw [Nat.add_zero] at this
  exact this
 ·rw [Nat.add_assoc, hcell _ (by omega)]
  exact flat_at (g := bindV) (sz := 3) (fun _ => rfl) bs i 1 hi (by omega)
 ·rw [Nat.add_assoc, hcell _ (by omega)]
  exact flat_at (g := bindV) (sz := 3) (fun _ => rfl) bs i 2 hi (by omega)
def ruleAgg (r : RuleM) (vh vf vb : Value) : Value := .agg #[.string r.nm, .int .u8 (r.goal : Int), vh, vf, vb]
structure RuleIn (w : World) (r : RuleM) (vh vf vb : Value) : Prop where
 H : HoleRow w vh r.holes
 F : PartRow w vf r.fnd
 B : PartRow w vb r.by'
theorem RuleIn.below {w w' : World} {r : RuleM} {vh vf vb : Value} (h : RuleIn w r vh vf vb) (hb : Below w.heap.size w w') : RuleIn w' r vh vf vb := ⟨h.H.below hb, h.F.below hb, h.B.below hb⟩
def SmallL (l : List Prt) : Prop := l.length ≤ 1048576 ∧ ∀ p ∈ l, p.1 < 256 ∧ p.2.2.size ≤ 1048576
structure SmallR (r : RuleM) : Prop where
 n : r.nm.size ≤ 1048576
 g : r.goal < 256
 h : r.holes.length ≤ 1048576 ∧ ∀ x ∈ r.holes, x.1.size ≤ 1048576 ∧ x.2 < 256
 f : SmallL r.fnd
 b : SmallL r.by'
end Go.Proofs.YtmklemelgdilkaaDoor
namespace Go.Proofs.YtmklemelgdilkaaDoor
set_option linter.all false

def firstErr : List RuleM → Int
 | [] => 0
 | r :: t => if ruleZ r = 0 then firstErr t else ruleZ r
def findErr (rules : List RuleM) (l : List Prt) : Int := if wellB l = false then 8 else if 32 < rules.length then 14 else firstErr rules
theorem firstErr_zero : ∀ {rules : List RuleM}, firstErr rules = 0 ↔ ∀ r ∈ rules, ruleZ r = 0
 | [] => by simp [firstErr]
 | r :: t => by
  rw [firstErr]
  by_cases h : ruleZ r = 0
  ·rw [if_pos h, firstErr_zero]; simp [h]
  ·rw [if_neg h]; simp [h]
theorem findErr_zero {rules : List RuleM} {l : List Prt} : findErr rules l = 0 ↔ wellB l = true ∧ rules.length ≤ 32 ∧ ∀ r ∈ rules, ruleZ r = 0 := by
 unfold findErr
 cases hw : wellB l with
 | false => simp
 | true =>
  rw [if_neg (by simp)]
  by_cases h : 32 < rules.length
  ·rw [if_pos h]; constructor
   ·intro h; omega
   ·intro h; omega
  ·rw [if_neg h, firstErr_zero]
   constructor
   ·intro g; exact ⟨rfl, by omega, g⟩
   ·intro g; exact g.2.2
end Go.Proofs.YtmklemelgdilkaaDoor
namespace Go.Proofs.YtmklemelgdilkaaDoor
set_option linter.all false
open Go.RowKit

def e2Rel (l : List Prt) (w : World) (iv : Value) (wr : World) : Prop :=
 ∃ (k : Nat) (E : List Int), iv = .int .i64 ((k : Int) - 1) ∧ k ≤ l.length ∧ E.length = l.length ∧ (∀ j, k ≤ j → j < l.length → E.getD j 0 = (endB l j : Int)) ∧
  wr.heap[w.heap.size]? = some (.cells (E.map (Value.int .i64)).toArray 3 (0, 0)) ∧ Below w.heap.size w wr
def e2In (l : List Prt) (w : World) (E : List Int) (i q : Nat) (cv : Value) (wr : World) : Prop :=
 ∃ c : Nat, cv = .int .i64 (c : Int) ∧ c ≤ q ∧ wr.heap[w.heap.size]? = some (.cells ((E.set i (kidAt l c (i + 1) : Int)).map (Value.int .i64)).toArray 3 (0, 0)) ∧ Below w.heap.size w wr
@[irreducible] def ends2Post (l : List Prt) (w0 : World) (e : Ending) (w' : World) : Prop :=
 ∃ v, e = .returned v ∧ Below w0.heap.size w0 w' ∧ w'.ownsRow w0.heap.size 3 1 v l.length ((endsL l).map (Value.int .i64))
theorem owns_block {w : World} {B g : Nat} {n : Nat} {E : List Int} (h : w.heap[g]? = some (.cells (E.map (Value.int .i64)).toArray 3 (0, 0))) (hB : B ≤ g) (hn : E.length = n) (hm : n ≤ 1000000000) : w.ownsRow B 3 1 (.slice (some ⟨g, 0, none⟩) n n) n (E.map (Value.int .i64)) :=
 ⟨by simp [hn], Or.inr ⟨g, n, _, rfl, hB, h, Nat.le_refl _, by unfold maxLen; omega, by simp [hn], by simp; rw [List.take_of_length_le (by simp [hn])]⟩⟩
end Go.Proofs.YtmklemelgdilkaaDoor
