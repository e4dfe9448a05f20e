/- Layer 17 in plain Lean: what Inst makes: how much, step by step. -/
import Derived.Test.YtmklemelgdilkaaDoorGuardPMh
import Derived.Test.YtmklemelgdilkaaDoorCheckDMh
import Derived.Test.YtmklemelgdilkaaDoorGuardVMh
namespace Go.Proofs.YtmklemelgdilkaaDoor
set_option linter.all false

def bOf (bs : List Bnd) (h : Nat) : Nat × Nat := match bs[h]? with
 | some x => (x.2.1.toNat, x.2.2.toNat)
 | none => (0, 0)
def BindsIn (bs : List Bnd) (l : List Prt) : Prop := ∀ x ∈ bs, 0 ≤ x.2.1 ∧ x.2.1 ≤ x.2.2 ∧ x.2.2 ≤ l.length
theorem bOf_at {bs : List Bnd} {h : Nat} (hh : h < bs.length) : bOf bs h = ((bs[h]).2.1.toNat, (bs[h]).2.2.toNat) := by unfold bOf; rw [List.getElem?_eq_getElem hh]
theorem bOf_in {bs : List Bnd} {l : List Prt} (hb : BindsIn bs l) (h : Nat) : (bOf bs h).1 ≤ (bOf bs h).2 ∧ (bOf bs h).2 ≤ l.length := by
 by_cases hh : h < bs.length
 ·have := hb _ (List.getElem_mem hh)
  rw [bOf_at hh]
  simp only []
  omega
 ·unfold bOf
  rw [List.getElem?_eq_none (by omega)]
  simp
section
variable {t l : List Prt} {hs : List Hl} {b : Nat → Nat × Nat}
theorem sizeS_le {m : Nat} (hb : ∀ h, (b h).2 - (b h).1 ≤ m) : ∀ n p, sizeS t hs b n p ≤ n * (m + 1)
 | 0, p => by rw [sizeS]; omega
 | n + 1, p => by
  rw [sizeS, Nat.add_mul]
  split
  ·cases holeOf t hs p with
   | some h =>
    simp only []
    have h1 := hb h
    have h2 := sizeS_le hb n (if kindAt t p = 50 then p + 2 else p + 1)
    omega
   | none =>
    simp only []
    have h2 := sizeS_le hb n (p + 1)
    omega
  ·omega
theorem mPart_len (H : HolesOK t hs) {m : Nat} (hb : ∀ h, (b h).2 - (b h).1 ≤ m) {n p : Nat} (hp : p < t.length) (hn : 2 * (endB t p - p) ≤ n) : (mPart t l hs b n p).length ≤ t.length * (m + 1) := by
 have h1 := (m_size t l hs b H n).1 p hp hn t.length (by omega)
 have h2 := sizeS_le (t := t) (hs := hs) hb t.length p
 omega
theorem mp_hole {n p h : Nat} (ho : holeOf t hs p = some h) : mPart t l hs b (n + 1) p = srcL l (b h).1 (b h).2 := by rw [mPart, ho]
theorem mp_none {n p : Nat} (ho : holeOf t hs p = none) (hp : p < t.length) : mPart t l hs b (n + 1) p = (((t[p]).1, (cntP ((mKids t l hs b n (p + 1) (endB t p)).map (·.1)) : Int), (t[p]).2.2), -1) :: mKids t l hs b n (p + 1) (endB t p) := by
 rw [mPart, ho, List.getElem?_eq_getElem hp]
theorem mk_end {n p : Nat} : mKids t l hs b (n + 1) p p = [] := by rw [mKids, if_pos rfl]
theorem mk_next {n p pend : Nat} (h : p ≠ pend) : mKids t l hs b (n + 1) p pend = mPart t l hs b n p ++ mKids t l hs b n (endB t p) pend := by rw [mKids, if_neg h]
theorem mPart_rows (hb : ∀ h, (b h).1 ≤ (b h).2 ∧ (b h).2 ≤ l.length) (hv : ∀ h, ∃ ts, rowsB (piece l (b h).1 (b h).2) = some ts) (n p : Nat) : ∃ ts, rowsB ((mPart t l hs b n p).map (·.1)) = some ts := by
 rw [(m_inst t l hs b hb n).1 p]
 obtain ⟨ts, h, _⟩ := (i_rows t hs (fun h => piece l (b h).1 (b h).2) hv n).1 p
 exact ⟨ts, h⟩
end
def intsV (xs : List Int) : List Go.Value := xs.map (Go.Value.int .i64)
end Go.Proofs.YtmklemelgdilkaaDoor
namespace Go.Proofs.YtmklemelgdilkaaDoor
set_option linter.all false

theorem treesZ_of {l : List Prt} {ts : List Nat} (h : rowsB l = some ts) : treesZ l = (ts.length : Int) := by unfold treesZ; rw [h]
section
variable (t : List Prt) (hs : List Hl) (b : Nat → Nat × Nat)
end
section
variable {t l : List Prt} {hs : List Hl} {b : Nat → Nat × Nat}
theorem pt_small (hl : SmallL l) (i : Nat) : (ptAt l i).1 < 256 ∧ (ptAt l i).2.2.size ≤ 1048576 := by
 unfold ptAt
 by_cases h : i < l.length
 ·have := hl.2 _ (List.getElem_mem h)
  simpa [List.getD_eq_getElem?_getD, h] using this
 ·rw [List.getD_eq_getElem?_getD, List.getElem?_eq_none (by omega)]
  decide
theorem m_small (ht : SmallL t) (hl : SmallL l) : ∀ n, (∀ p, ∀ x ∈ mPart t l hs b n p, x.1.1 < 256 ∧ x.1.2.2.size ≤ 1048576) ∧ (∀ p pend, ∀ x ∈ mKids t l hs b n p pend, x.1.1 < 256 ∧ x.1.2.2.size ≤ 1048576)
 | 0 => ⟨(fun p x hx => by rw [mPart] at hx; cases hx), (fun p pend x hx => by rw [mKids] at hx; cases hx)⟩
 | n + 1 => by
  obtain ⟨h1, h2⟩ := m_small ht hl n
  constructor
  ·intro p x hx
   rw [mPart] at hx
   cases ho : holeOf t hs p with
   | some h =>
    rw [ho] at hx
    simp only [] at hx
    unfold srcL at hx
    obtain ⟨k, _, rfl⟩ := List.mem_map.1 hx
    exact pt_small hl k
   | none =>
    rw [ho] at hx
    simp only [] at hx
    cases hp : t[p]? with
    | none => rw [hp] at hx; cases hx
    | some a =>
     rw [hp] at hx
     simp only [] at hx
     rcases List.mem_cons.1 hx with rfl | hx
     ·obtain ⟨hp', rfl⟩ := List.getElem?_eq_some_iff.1 hp
      have := ht.2 _ (List.getElem_mem hp')
      exact this
     ·exact h2 _ _ x hx
  ·intro p pend x hx
   rw [mKids] at hx
   split at hx
   ·cases hx
   ·rcases List.mem_append.1 hx with hx | hx
    ·exact h1 _ x hx
    ·exact h2 _ _ x hx
end
end Go.Proofs.YtmklemelgdilkaaDoor
namespace Go.Proofs.YtmklemelgdilkaaDoor
set_option linter.all false

def UpInv (l : List Prt) : List (Nat × Int) → Nat → Prop
 | [], pos => pos = l.length ∨ pos = 0
 | (o, c) :: st, pos => o < pos ∧ 0 ≤ c ∧ advT l c.toNat pos (endB l o) = some (endB l o) ∧ endB l o ≤ l.length ∧ (∀ j, o < j → j < pos → endB l j ≤ pos) ∧ UpInv l st (endB l o)
theorem UpInv.pop {l : List Prt} {o : Nat} {st : List (Nat × Int)} {pos : Nat} (h : UpInv l ((o, 0) :: st) pos) : UpInv l st pos := by
 obtain ⟨_, _, h3, _, _, h6⟩ := h
 rw [show (0 : Int).toNat = 0 by rfl, advT] at h3
 have : pos = endB l o := by simpa using h3
 rw [this]; exact h6
theorem UpInv.top {l : List Prt} {us : List Nat} (hl : rowsB l = some us) {o : Nat} {c : Int} {st : List (Nat × Int)} {pos : Nat} (h : UpInv l ((o, c) :: st) pos) (hc : c ≠ 0) : upN l pos = (o : Int) ∧ o < pos ∧ pos < endB l o := by
 obtain ⟨h1, h2, h3, h4, h5, _⟩ := h
 have hlt : pos < endB l o := by
  obtain ⟨k, hk⟩ : ∃ k, c.toNat = k + 1 := ⟨c.toNat - 1, by omega⟩
  rw [hk, advT] at h3
  split at h3
  ·assumption
  ·cases h3
 exact ⟨up_of hl (by omega) h1 hlt h5, h1, hlt⟩
theorem UpInv.push {l : List Prt} {us : List Nat} (hl : rowsB l = some us) {o : Nat} {c : Int} {st : List (Nat × Int)} {i : Nat} (h : UpInv l ((o, c) :: st) i) (hc : c ≠ 0) (hi : i < l.length) : UpInv l ((i, (l[i]).2.1) :: (o, c - 1) :: st) (i + 1) := by
 obtain ⟨g1, g2, g3⟩ := h.top hl hc
 obtain ⟨h1, h2, h3, h4, h5, h6⟩ := h
 obtain ⟨q, k1, k2⟩ := adv_kids hl hi
 have hg := endB_gt hl hi
 refine ⟨by omega, by omega, by rw [k1]; exact k2, hg.2, fun j a b => by omega, by omega, by omega, ?_, h4, fun j a b => ?_, h6⟩
 ·obtain ⟨k, hk⟩ : ∃ k, c.toNat = k + 1 := ⟨c.toNat - 1, by omega⟩
  rw [hk, advT, if_pos g3] at h3
  rw [show (c - 1).toNat = k by omega]; exact h3
 ·rcases Nat.lt_or_ge j i with a1 | a1
  ·have := h5 j a a1; omega
  ·exact end_within hl hi a1 b
theorem UpInv.root {l : List Prt} (hl : wellB l = true) (h0 : 0 < l.length) : UpInv l [(0, (l[0]).2.1)] 1 := by
 have hw := well_rows hl
 have hz := well_zero hl
 obtain ⟨q, k1, k2⟩ := adv_kids hw h0
 exact ⟨by omega, by omega, by rw [k1]; exact k2, by omega, fun j a b => by omega, Or.inl hz.2⟩
theorem UpInv.len {l : List Prt} : ∀ {st : List (Nat × Int)} {pos : Nat}, UpInv l st pos → ∀ x ∈ st, x.1 < l.length ∧ 0 ≤ x.2
 | [], _, _, x, hx => by cases hx
 | (o, c) :: st, pos, h, x, hx => by
  obtain ⟨h1, h2, h3, h4, h5, h6⟩ := h
  rcases List.mem_cons.1 hx with rfl | hx
  ·refine ⟨?_, h2⟩
   show o < l.length
   apply Classical.byContradiction
   intro hn
   have : endB l o = o := by
    unfold endB headSize
    rw [List.drop_eq_nil_of_le (by omega), rowsB_nil]; rfl
   cases hc : c.toNat with
   | zero =>
    rw [hc, advT] at h3
    have := Option.some.inj h3
    omega
   | succ k =>
    rw [hc, advT] at h3
    split at h3
    ·omega
    ·cases h3
  ·exact UpInv.len h6 x hx
end Go.Proofs.YtmklemelgdilkaaDoor
namespace Go.Proofs.YtmklemelgdilkaaDoor
set_option linter.all false
attribute [local irreducible] Calls
open Go.RowKit

def kindU (l : List Prt) (u : Int) : Int := match kindI l u with
 | some k => (k : Int)
 | none => 69
theorem upN_ge (l : List Prt) (i : Nat) : -1 ≤ upN l i := by
 unfold upN
 have key : ∀ k, -1 ≤ upI l i k := by
  intro k
  induction k with
  | zero => rw [upI]; omega
  | succ k ih => rw [upI]; split <;> omega
 exact key i
theorem upN_less (l : List Prt) (i : Nat) : upN l i < (i : Int) := by
 unfold upN
 have key : ∀ k, upI l i k < (k : Int) := by
  intro k
  induction k with
  | zero => rw [upI]; omega
  | succ k ih => rw [upI]; split <;> omega
 exact key i
set_option maxRecDepth 100000 in
set_option maxHeartbeats 8000000 in
theorem rule_kind (l : List Prt) (hl : l.length ≤ 1000000000) (v : Value) (u : Int) (h1 : -1 ≤ u) (h2 : u < l.length) (w : World) (hr : PartRow w v l) :
  Calls Tryd.prog 56 #[v, .int .i64 u] w fun e w' => e = .returned (.int .u8 (kindU l u)) ∧ w = w' := by
 have HQ : RowKit.Hid (∀ x, kindU l u = x → (fun (e : Ending) w' => e = .returned (.int .u8 (kindU l u)) ∧ w = w') (.returned (.int .u8 x)) w) := Lib.hid fun x h => ⟨by rw [h], rfl⟩
 generalize (fun (e : Ending) w' => e = .returned (.int .u8 (kindU l u)) ∧ w = w') = Q at *
 obtain ⟨va, vcap, rfl, hvc⟩ := hr.slice
 by_cases hu : u < 0
 ·have HX := Lib.hid (HQ.out 69 (by unfold kindU kindI; rw [if_pos hu]))
  go_enter Tryd.func56, Tryd.ntmps56
  go_wp2_with fail
  exact HX.out
 ·obtain ⟨k, rfl⟩ : ∃ k : Nat, u = (k : Int) := ⟨u.toNat, by omega⟩
  have hk : k < l.length := by omega
  obtain ⟨b, off, rfl, _, _, hbl, hcell⟩ := hr.at (Below.refl _ _) (show 0 < l.length by omega)
  have c0 := (hcell k hk).1
  have hk0 : (0 : Int) ≤ (k : Int) := by omega
  have hkl : (k : Int) < l.length := by omega
  have hneg : ¬ (k : Int) < 0 := by omega
  have HX := Lib.hid (HQ.out ((l[k]).1 : Int) (by unfold kindU kindI; rw [if_neg hneg, Int.toNat_natCast, List.getElem?_eq_getElem hk]; rfl))
  clear hcell hr HQ
  generalize (l[k]).1 = x at *
  go_enter Tryd.func56, Tryd.ntmps56
  go_wp2_with fail
  exact HX.out
end Go.Proofs.YtmklemelgdilkaaDoor
namespace Go.Proofs.YtmklemelgdilkaaDoor
set_option linter.all false
attribute [local irreducible] Calls
open Go.RowKit

theorem levelZ_le (p : Prt) : levelZ p ≤ 10 := by
 unfold levelZ lvW
 by_cases h1 : p.1 = 36 ∨ p.1 = 35
 ·rw [if_pos h1]; omega
 ·rw [if_neg h1]
  by_cases h2 : p.1 = 37
  ·rw [if_pos h2]
   repeat' split
   all_goals omega
  ·rw [if_neg h2]; omega
set_option maxRecDepth 100000 in
set_option maxHeartbeats 16000000 in
theorem guard_least (p : Prt) (nth : Nat) (hn : nth < 100000000) (hs : p.2.2.size ≤ 1048576) (w : World) (hM : MaxC w) :
  Calls Tryd.prog 49 #[partA p, .int .i64 (nth : Int)] w fun e w' => e = .returned (.int .i64 (leastZ p nth : Int)) ∧ Below w.heap.size w w' := by
 have HQ : RowKit.Hid (∀ x w', (leastZ p nth : Int) = x → Below w.heap.size w w' → (fun (e : Ending) w' => e = .returned (.int .i64 (leastZ p nth : Int)) ∧ Below w.heap.size w w') (.returned (.int .i64 x)) w') := Lib.hid fun x w' h hb => ⟨by rw [h], hb⟩
 generalize (fun (e : Ending) w' => e = .returned (.int .i64 (leastZ p nth : Int)) ∧ Below w.heap.size w w') = Q at *
 obtain ⟨k, n, s⟩ := p
 have HV := Lib.hid (fun W (hb : Below w.heap.size w W) => guard_Level (k, n, s) hs W (hM.below hb))
 unfold partA at HV ⊢
 simp only [] at hs HQ HV ⊢
 have HX := Lib.hid ((Below.refl w.heap.size w).alloc (Nat.le_refl _) (.cells #[.int .u8 (k : Int), .int .i64 n, .string s] 38))
 have HPK : RowKit.Hid (PK (w.alloc (.cells #[.int .u8 (k : Int), .int .i64 n, .string s] 38)) w.heap.size (k, n, s)) := Lib.hid (PK.alloc_new w (k, n, s))
 by_cases h37 : k = 37
 ·subst h37
  rw [show ((37 : Nat) : Int) = (37 : Int) from rfl] at HX HPK HV ⊢
  have hl : leastZ (37, n, s) nth = if nth = 0 then levelZ (37, n, s) else if nth = 1 then levelZ (37, n, s) + 1 else 0 := by unfold leastZ; rw [if_pos rfl]
  have hlv : levelZ (37, n, s) ≤ 10 := levelZ_le _
  generalize levelZ (37, n, s) = lv at *
  by_cases h0 : nth = 0
  ·subst h0
   rw [if_pos rfl] at hl
   have HJ := Lib.hid hl
   clear hl
   clear hM
   go_enter Tryd.func49, Tryd.ntmps49
   go_upto_region 1 with (fail)
   generalize w.alloc (.cells #[.int .u8 (37 : Int), .int .i64 n, .string s] 38) = W1 at *
   have p0 := HPK.out.c0; have p1 := HPK.out.c1; have p2 := HPK.out.c2
   simp only [] at p0 p1 p2
   go_wp2_with fail
   refine (HV.out W1 HX.out).mono ?_
   rintro e w2 ⟨rfl, hb⟩
   have HZ := Lib.hid (HQ.out _ w2 (by rw [HJ.out]) (bthen HX.out hb))
   clear hb p0 p1 p2
   go_wp2_with fail
   exact HZ.out
  by_cases h1 : nth = 1
  ·subst h1
   rw [if_neg (by decide), if_pos rfl] at hl
   have HJ := Lib.hid hl
   clear hl
   clear hM
   go_enter Tryd.func49, Tryd.ntmps49
   go_upto_region 1 with (fail)
   generalize w.alloc (.cells #[.int .u8 (37 : Int), .int .i64 n, .string s] 38) = W1 at *
   have p0 := HPK.out.c0; have p1 := HPK.out.c1; have p2 := HPK.out.c2
   simp only [] at p0 p1 p2
   go_wp2_with fail
   refine (HV.out W1 HX.out).mono ?_
   rintro e w2 ⟨rfl, hb⟩
   have HZ := Lib.hid (HQ.out _ w2 (by rw [HJ.out]) (bthen HX.out hb))
   clear hb p0 p1 p2
   go_wp2_with fail
   exact HZ.out
  have HJ := Lib.hid (by rw [if_neg h0, if_neg h1] at hl; exact hl : leastZ (37, n, s) nth = 0)
  have g0 : ((nth : Int) == 0) = false := by rw [beq_eq_false_iff_ne]; omega
  have g1 : ((nth : Int) == 1) = false := by rw [beq_eq_false_iff_ne]; omega
  clear hl h0 h1
  clear hM
  go_enter Tryd.func49, Tryd.ntmps49
  go_upto_region 1 with (fail)
  generalize w.alloc (.cells #[.int .u8 (37 : Int), .int .i64 n, .string s] 38) = W1 at *
  have p0 := HPK.out.c0; have p1 := HPK.out.c1; have p2 := HPK.out.c2
  simp only [] at p0 p1 p2
  go_wp2_with fail
  have HZ := Lib.hid (HQ.out 0 W1 (by rw [HJ.out]; rfl) HX.out)
  exact HZ.out
 have g37 : ((k : Int) == 37) = false := by rw [beq_eq_false_iff_ne]; omega
 by_cases h36 : k = 36
 ·subst h36
  clear g37 h37
  rw [show ((36 : Nat) : Int) = (36 : Int) from rfl] at HX HPK ⊢
  have HJ := Lib.hid (by unfold leastZ; simp : leastZ (36, n, s) nth = 6)
  clear hM
  go_enter Tryd.func49, Tryd.ntmps49
  go_upto_region 1 with (fail)
  generalize w.alloc (.cells #[.int .u8 (36 : Int), .int .i64 n, .string s] 38) = W1 at *
  have p0 := HPK.out.c0; have p1 := HPK.out.c1; have p2 := HPK.out.c2
  simp only [] at p0 p1 p2
  go_wp2_with fail
  have HZ := Lib.hid (HQ.out 6 W1 (by rw [HJ.out]; rfl) HX.out)
  exact HZ.out
 by_cases h35 : k = 35
 ·subst h35
  clear g37 h37
  rw [show ((35 : Nat) : Int) = (35 : Int) from rfl] at HX HPK ⊢
  have HJ := Lib.hid (by unfold leastZ; simp : leastZ (35, n, s) nth = 6)
  clear hM
  go_enter Tryd.func49, Tryd.ntmps49
  go_upto_region 1 with (fail)
  generalize w.alloc (.cells #[.int .u8 (35 : Int), .int .i64 n, .string s] 38) = W1 at *
  have p0 := HPK.out.c0; have p1 := HPK.out.c1; have p2 := HPK.out.c2
  simp only [] at p0 p1 p2
  go_wp2_with fail
  have HZ := Lib.hid (HQ.out 6 W1 (by rw [HJ.out]; rfl) HX.out)
  exact HZ.out
 have g36 : ((k : Int) == 36) = false := by rw [beq_eq_false_iff_ne]; omega
 have g35 : ((k : Int) == 35) = false := by rw [beq_eq_false_iff_ne]; omega
 by_cases h29 : k = 29
 ·subst h29
  rw [show ((29 : Nat) : Int) = (29 : Int) from rfl] at HX HPK ⊢
  clear g35 g36 g37 h35 h36 h37
  by_cases ht : nth = 0
  ·subst ht
   have HJ := Lib.hid (by unfold leastZ; simp : leastZ (29, n, s) 0 = 7)
   clear hM
   go_enter Tryd.func49, Tryd.ntmps49
   go_upto_region 1 with (fail)
   generalize w.alloc (.cells #[.int .u8 (29 : Int), .int .i64 n, .string s] 38) = W1 at *
   have p0 := HPK.out.c0; have p1 := HPK.out.c1; have p2 := HPK.out.c2
   simp only [] at p0 p1 p2
   go_wp2_with fail
   have HZ := Lib.hid (HQ.out 7 W1 (by rw [HJ.out]; rfl) HX.out)
   exact HZ.out
  ·have g0 : ((nth : Int) == 0) = false := by rw [beq_eq_false_iff_ne]; omega
   have hj : leastZ (29, n, s) nth = 0 := by unfold leastZ; simp [ht]
   clear ht
   have HJ := Lib.hid (by exact hj : leastZ (29, n, s) nth = 0)
   clear hM
   go_enter Tryd.func49, Tryd.ntmps49
   go_upto_region 1 with (fail)
   generalize w.alloc (.cells #[.int .u8 (29 : Int), .int .i64 n, .string s] 38) = W1 at *
   have p0 := HPK.out.c0; have p1 := HPK.out.c1; have p2 := HPK.out.c2
   simp only [] at p0 p1 p2
   go_wp2_with fail
   have HZ := Lib.hid (HQ.out 0 W1 (by rw [HJ.out]; rfl) HX.out)
   exact HZ.out
 by_cases h30 : k = 30
 ·subst h30
  rw [show ((30 : Nat) : Int) = (30 : Int) from rfl] at HX HPK ⊢
  clear g35 g36 g37 h35 h36 h37 h29
  by_cases ht : nth = 0
  ·subst ht
   have HJ := Lib.hid (by unfold leastZ; simp : leastZ (30, n, s) 0 = 7)
   clear hM
   go_enter Tryd.func49, Tryd.ntmps49
   go_upto_region 1 with (fail)
   generalize w.alloc (.cells #[.int .u8 (30 : Int), .int .i64 n, .string s] 38) = W1 at *
   have p0 := HPK.out.c0; have p1 := HPK.out.c1; have p2 := HPK.out.c2
   simp only [] at p0 p1 p2
   go_wp2_with fail
   have HZ := Lib.hid (HQ.out 7 W1 (by rw [HJ.out]; rfl) HX.out)
   exact HZ.out
  ·have g0 : ((nth : Int) == 0) = false := by rw [beq_eq_false_iff_ne]; omega
   have hj : leastZ (30, n, s) nth = 0 := by unfold leastZ; simp [ht]
   clear ht
   have HJ := Lib.hid (by exact hj : leastZ (30, n, s) nth = 0)
   clear hM
   go_enter Tryd.func49, Tryd.ntmps49
   go_upto_region 1 with (fail)
   generalize w.alloc (.cells #[.int .u8 (30 : Int), .int .i64 n, .string s] 38) = W1 at *
   have p0 := HPK.out.c0; have p1 := HPK.out.c1; have p2 := HPK.out.c2
   simp only [] at p0 p1 p2
   go_wp2_with fail
   have HZ := Lib.hid (HQ.out 0 W1 (by rw [HJ.out]; rfl) HX.out)
   exact HZ.out
 by_cases h31 : k = 31
 ·subst h31
  rw [show ((31 : Nat) : Int) = (31 : Int) from rfl] at HX HPK ⊢
  clear g35 g36 g37 h35 h36 h37 h29 h30
  by_cases ht : nth = 0
  ·subst ht
   have HJ := Lib.hid (by unfold leastZ; simp : leastZ (31, n, s) 0 = 7)
   clear hM
   go_enter Tryd.func49, Tryd.ntmps49
   go_upto_region 1 with (fail)
   generalize w.alloc (.cells #[.int .u8 (31 : Int), .int .i64 n, .string s] 38) = W1 at *
   have p0 := HPK.out.c0; have p1 := HPK.out.c1; have p2 := HPK.out.c2
   simp only [] at p0 p1 p2
   go_wp2_with fail
   have HZ := Lib.hid (HQ.out 7 W1 (by rw [HJ.out]; rfl) HX.out)
   exact HZ.out
  ·have g0 : ((nth : Int) == 0) = false := by rw [beq_eq_false_iff_ne]; omega
   have hj : leastZ (31, n, s) nth = 0 := by unfold leastZ; simp [ht]
   clear ht
   have HJ := Lib.hid (by exact hj : leastZ (31, n, s) nth = 0)
   clear hM
   go_enter Tryd.func49, Tryd.ntmps49
   go_upto_region 1 with (fail)
   generalize w.alloc (.cells #[.int .u8 (31 : Int), .int .i64 n, .string s] 38) = W1 at *
   have p0 := HPK.out.c0; have p1 := HPK.out.c1; have p2 := HPK.out.c2
   simp only [] at p0 p1 p2
   go_wp2_with fail
   have HZ := Lib.hid (HQ.out 0 W1 (by rw [HJ.out]; rfl) HX.out)
   exact HZ.out
 by_cases h32 : k = 32
 ·subst h32
  rw [show ((32 : Nat) : Int) = (32 : Int) from rfl] at HX HPK ⊢
  clear g35 g36 g37 h35 h36 h37 h29 h30 h31
  by_cases ht : nth = 0
  ·subst ht
   have HJ := Lib.hid (by unfold leastZ; simp : leastZ (32, n, s) 0 = 7)
   clear hM
   go_enter Tryd.func49, Tryd.ntmps49
   go_upto_region 1 with (fail)
   generalize w.alloc (.cells #[.int .u8 (32 : Int), .int .i64 n, .string s] 38) = W1 at *
   have p0 := HPK.out.c0; have p1 := HPK.out.c1; have p2 := HPK.out.c2
   simp only [] at p0 p1 p2
   go_wp2_with fail
   have HZ := Lib.hid (HQ.out 7 W1 (by rw [HJ.out]; rfl) HX.out)
   exact HZ.out
  ·have g0 : ((nth : Int) == 0) = false := by rw [beq_eq_false_iff_ne]; omega
   have hj : leastZ (32, n, s) nth = 0 := by unfold leastZ; simp [ht]
   clear ht
   have HJ := Lib.hid (by exact hj : leastZ (32, n, s) nth = 0)
   clear hM
   go_enter Tryd.func49, Tryd.ntmps49
   go_upto_region 1 with (fail)
   generalize w.alloc (.cells #[.int .u8 (32 : Int), .int .i64 n, .string s] 38) = W1 at *
   have p0 := HPK.out.c0; have p1 := HPK.out.c1; have p2 := HPK.out.c2
   simp only [] at p0 p1 p2
   go_wp2_with fail
   have HZ := Lib.hid (HQ.out 0 W1 (by rw [HJ.out]; rfl) HX.out)
   exact HZ.out
 by_cases h33 : k = 33
 ·subst h33
  rw [show ((33 : Nat) : Int) = (33 : Int) from rfl] at HX HPK ⊢
  clear g35 g36 g37 h35 h36 h37 h29 h30 h31 h32
  by_cases ht : nth = 0
  ·subst ht
   have HJ := Lib.hid (by unfold leastZ; simp : leastZ (33, n, s) 0 = 7)
   clear hM
   go_enter Tryd.func49, Tryd.ntmps49
   go_upto_region 1 with (fail)
   generalize w.alloc (.cells #[.int .u8 (33 : Int), .int .i64 n, .string s] 38) = W1 at *
   have p0 := HPK.out.c0; have p1 := HPK.out.c1; have p2 := HPK.out.c2
   simp only [] at p0 p1 p2
   go_wp2_with fail
   have HZ := Lib.hid (HQ.out 7 W1 (by rw [HJ.out]; rfl) HX.out)
   exact HZ.out
  ·have g0 : ((nth : Int) == 0) = false := by rw [beq_eq_false_iff_ne]; omega
   have hj : leastZ (33, n, s) nth = 0 := by unfold leastZ; simp [ht]
   clear ht
   have HJ := Lib.hid (by exact hj : leastZ (33, n, s) nth = 0)
   clear hM
   go_enter Tryd.func49, Tryd.ntmps49
   go_upto_region 1 with (fail)
   generalize w.alloc (.cells #[.int .u8 (33 : Int), .int .i64 n, .string s] 38) = W1 at *
   have p0 := HPK.out.c0; have p1 := HPK.out.c1; have p2 := HPK.out.c2
   simp only [] at p0 p1 p2
   go_wp2_with fail
   have HZ := Lib.hid (HQ.out 0 W1 (by rw [HJ.out]; rfl) HX.out)
   exact HZ.out
 by_cases h34 : k = 34
 ·subst h34
  rw [show ((34 : Nat) : Int) = (34 : Int) from rfl] at HX HPK ⊢
  clear g35 g36 g37 h35 h36 h37 h29 h30 h31 h32 h33
  by_cases ht : nth = 0
  ·subst ht
   have HJ := Lib.hid (by unfold leastZ; simp : leastZ (34, n, s) 0 = 7)
   clear hM
   go_enter Tryd.func49, Tryd.ntmps49
   go_upto_region 1 with (fail)
   generalize w.alloc (.cells #[.int .u8 (34 : Int), .int .i64 n, .string s] 38) = W1 at *
   have p0 := HPK.out.c0; have p1 := HPK.out.c1; have p2 := HPK.out.c2
   simp only [] at p0 p1 p2
   go_wp2_with fail
   have HZ := Lib.hid (HQ.out 7 W1 (by rw [HJ.out]; rfl) HX.out)
   exact HZ.out
  ·have g0 : ((nth : Int) == 0) = false := by rw [beq_eq_false_iff_ne]; omega
   have hj : leastZ (34, n, s) nth = 0 := by unfold leastZ; simp [ht]
   clear ht
   have HJ := Lib.hid (by exact hj : leastZ (34, n, s) nth = 0)
   clear hM
   go_enter Tryd.func49, Tryd.ntmps49
   go_upto_region 1 with (fail)
   generalize w.alloc (.cells #[.int .u8 (34 : Int), .int .i64 n, .string s] 38) = W1 at *
   have p0 := HPK.out.c0; have p1 := HPK.out.c1; have p2 := HPK.out.c2
   simp only [] at p0 p1 p2
   go_wp2_with fail
   have HZ := Lib.hid (HQ.out 0 W1 (by rw [HJ.out]; rfl) HX.out)
   exact HZ.out
 have g29 : ((k : Int) == 29) = false := by rw [beq_eq_false_iff_ne]; omega
 have g30 : ((k : Int) == 30) = false := by rw [beq_eq_false_iff_ne]; omega
 have g31 : ((k : Int) == 31) = false := by rw [beq_eq_false_iff_ne]; omega
 have g32 : ((k : Int) == 32) = false := by rw [beq_eq_false_iff_ne]; omega
 have g33 : ((k : Int) == 33) = false := by rw [beq_eq_false_iff_ne]; omega
 have g34 : ((k : Int) == 34) = false := by rw [beq_eq_false_iff_ne]; omega
 by_cases h61 : k = 61
 ·subst h61
  rw [show ((61 : Nat) : Int) = (61 : Int) from rfl] at HX HPK ⊢
  clear g35 g36 g37 h35 h36 h37 h29 h30 h31 h32 h33 h34
  clear g29 g30 g31 g32 g33 g34
  by_cases ht : nth = 2
  ·subst ht
   have HJ := Lib.hid (by unfold leastZ; simp : leastZ (61, n, s) 2 = 7)
   clear hM
   go_enter Tryd.func49, Tryd.ntmps49
   go_upto_region 1 with (fail)
   generalize w.alloc (.cells #[.int .u8 (61 : Int), .int .i64 n, .string s] 38) = W1 at *
   have p0 := HPK.out.c0; have p1 := HPK.out.c1; have p2 := HPK.out.c2
   simp only [] at p0 p1 p2
   go_wp2_with fail
   have HZ := Lib.hid (HQ.out 7 W1 (by rw [HJ.out]; rfl) HX.out)
   exact HZ.out
  ·have g0 : ((nth : Int) == 2) = false := by rw [beq_eq_false_iff_ne]; omega
   have hj : leastZ (61, n, s) nth = 0 := by unfold leastZ; simp [ht]
   clear ht
   have HJ := Lib.hid (by exact hj : leastZ (61, n, s) nth = 0)
   clear hM
   go_enter Tryd.func49, Tryd.ntmps49
   go_upto_region 1 with (fail)
   generalize w.alloc (.cells #[.int .u8 (61 : Int), .int .i64 n, .string s] 38) = W1 at *
   have p0 := HPK.out.c0; have p1 := HPK.out.c1; have p2 := HPK.out.c2
   simp only [] at p0 p1 p2
   go_wp2_with fail
   have HZ := Lib.hid (HQ.out 0 W1 (by rw [HJ.out]; rfl) HX.out)
   exact HZ.out
 have g61 : ((k : Int) == 61) = false := by rw [beq_eq_false_iff_ne]; omega
 have hj : leastZ (k, n, s) nth = 0 := by unfold leastZ; rw [if_neg h37, if_neg (by simp only []; omega), if_neg (by simp only []; omega), if_neg h61]
 clear h37 h36 h35 h29 h30 h31 h32 h33 h34 h61
 have HJ := Lib.hid (by exact hj : leastZ (k, n, s) nth = 0)
 clear hM
 go_enter Tryd.func49, Tryd.ntmps49
 go_upto_region 1 with (fail)
 generalize w.alloc (.cells #[.int .u8 (k : Int), .int .i64 n, .string s] 38) = W1 at *
 have p0 := HPK.out.c0; have p1 := HPK.out.c1; have p2 := HPK.out.c2
 simp only [] at p0 p1 p2
 go_wp2_with fail
 have HZ := Lib.hid (HQ.out 0 W1 (by rw [HJ.out]; rfl) HX.out)
 exact HZ.out
end Go.Proofs.YtmklemelgdilkaaDoor
