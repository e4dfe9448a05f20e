/- Layer 11: what Read holds in memory, and how each step turns it. -/
import Derived.Test.YtpjglenogifclaaGreatDoorPartNM
import Derived.Test.YtpjglenogifclaaGreatDoorShowM
import Derived.Test.YtpjglenogifclaaGreatDoorSwapPM
import Derived.Test.YtpjglenogifclaaGreatDoorSwapM
import Derived.Deep.LoopGhost
import Derived.Deep.CutRange
import Derived.Test.YtpjglenogifclaaGreatDoorTreePM
import Derived.Test.YtpjglenogifclaaGreatDoorShowPM
namespace Go.Proofs.YtpjglenogifclaaGreatDoor
set_option linter.all false
open Go.RowKit

/-- What Read holds: the parts, those that are open, the place, the text. -/
structure RdW (B ga gs : Nat) (w0 : World) (s : ByteArray) (out : List Prt) (op : List Nat) (j : Nat) (o lf : Value) (W : World) : Prop where
  out : W.ownsRow B 28 3 o out.length (partsV out)
  opn : W.ownsRow B 3 1 lf op.length (natV op.reverse)
  at' : W.heap[ga]? = some (.cells #[.int .i64 (j : Int)] 3 (0, 0))
  txt : W.heap[gs]? = some (.cells #[.string s] 9 (0, 0))
  below : Below B w0 W
  base : B ≤ W.heap.size
  ga0 : B ≤ ga
  ga1 : o.ownBlock ≠ some ga
  ga2 : lf.ownBlock ≠ some ga
theorem RdW.cells {B ga gs : Nat} {w0 W : World} {s : ByteArray} {out : List Prt} {op : List Nat} {j : Nat} {o lf : Value} (h : RdW B ga gs w0 s out op j o lf W) :
    W.cell? ⟨ga, 0, none⟩ = some (.int .i64 (j : Int)) ∧ W.frozen? ⟨ga, 0, none⟩ = false ∧ W.cell? ⟨gs, 0, none⟩ = some (.string s) := by
  refine ⟨?_, ?_, ?_⟩
  · simp [World.cell?, h.at']
  · simp [World.frozen?, h.at']
  · simp [World.cell?, h.txt]
theorem RdW.later {B ga gs : Nat} {w0 W W' : World} {s : ByteArray} {out : List Prt} {op : List Nat} {j : Nat} {o lf : Value} (h : RdW B ga gs w0 s out op j o lf W) (hb : Below W.heap.size W W') : RdW B ga gs w0 s out op j o lf W' :=
  ⟨owns_below h.out hb, owns_below h.opn hb, keeps hb h.at', keeps hb h.txt, h.below.trans (hb.mono h.base), Nat.le_trans h.base hb.size, h.ga0, h.ga1, h.ga2⟩
/-- The place, moved. -/
theorem RdW.move {B ga gs : Nat} {w0 W : World} {s : ByteArray} {out : List Prt} {op : List Nat} {j : Nat} {o lf : Value} (h : RdW B ga gs w0 s out op j o lf W) (hne : gs ≠ ga) (t : Nat) : RdW B ga gs w0 s out op t o lf (W.setCell ⟨ga, 0, none⟩ (.int .i64 (t : Int))) := by
  refine ⟨ownsRow_setCell_other h.out h.ga1 _, ownsRow_setCell_other h.opn h.ga2 _, ?_, ?_, h.below.setCell (p := ⟨ga, 0, none⟩) h.ga0 _, by simpa using h.base, h.ga0, h.ga1, h.ga2⟩
  · exact heap_setCell_same W ga 0 _ _ _ h.at'
  · rw [heap_setCell_other _ _ _ _ (by exact hne)]; exact h.txt
/-- A part less is open. -/
theorem RdW.pop {B ga gs : Nat} {w0 W : World} {s : ByteArray} {out : List Prt} {e : Nat} {r : List Nat} {j : Nat} {o : Value} {g c : Nat} (h : RdW B ga gs w0 s out (e :: r) j o (.slice (some ⟨g, 0, none⟩) (r.length + 1) c) W) : RdW B ga gs w0 s out r j o (.slice (some ⟨g, 0, none⟩) r.length c) W := by
  refine ⟨h.out, ?_, h.at', h.txt, h.below, h.base, h.ga0, h.ga1, h.ga2⟩
  have := ownsRow_take h.opn (k := r.length) (by simp)
  rw [Nat.mul_one] at this
  have e1 : (natV (e :: r).reverse).take r.length = natV r.reverse := by
    unfold natV
    rw [List.reverse_cons, List.map_append, List.take_append_of_le_length (by simp), List.take_of_length_le (by simp)]
  rw [e1] at this
  exact this
/-- A kid more. -/
theorem RdW.kid {B ga gs : Nat} {w0 W : World} {s : ByteArray} {out : List Prt} {op : List Nat} {j : Nat} {lf : Value} {g c : Nat} (h : RdW B ga gs w0 s out op j (.slice (some ⟨g, 0, none⟩) out.length c) lf W) (e : Nat) (he : e < out.length) :
    W.cell? ⟨g, e * 3 + 1, none⟩ = some (.int .i64 (out[e]).2.1) ∧ W.frozen? ⟨g, e * 3 + 1, none⟩ = false ∧ RdW B ga gs w0 s (addK out e 1) op j (.slice (some ⟨g, 0, none⟩) out.length c) lf (W.setCell ⟨g, e * 3 + 1, none⟩ (.int .i64 ((out[e]).2.1 + 1))) := by
  have hfz : W.frozen? ⟨g, e * 3 + 1, none⟩ = false ∧ ∃ cs fr, W.heap[g]? = some (.cells cs 28 fr) := by
    rcases h.out.2 with ⟨hv, _⟩ | ⟨g', cap', cur, hv, _, hh, _⟩
    · cases hv
    · simp only [Value.slice.injEq, Option.some.injEq, Addr.mk.injEq, and_true, true_and] at hv
      obtain ⟨rfl, rfl⟩ := hv
      exact ⟨by simp [World.frozen?, hh], _, _, hh⟩
  obtain ⟨hf, cs, fr, hh⟩ := hfz
  have hset := owns_set h.out (e * 3 + 1) (by rw [partsV_length]; omega) (.int .i64 ((out[e]).2.1 + 1))
  rw [addK_cells _ _ _ he] at hset
  have hln : (addK out e 1).length = out.length := addK_length _ _ _
  refine ⟨by rw [h.out.cellAt _ (by omega)]; exact (partsV_at _ e he).2.1, hf, ?_, ?_, ?_, ?_, ?_, by simpa using h.base, h.ga0, h.ga1, h.ga2⟩
  · rw [hln]; exact hset
  · refine ownsRow_setCell_other h.opn (fun e1 => ?_) _
    rcases h.opn.2 with ⟨hv, _⟩ | ⟨k, cap, cur, hv, _, hk, _⟩
    · rw [hv] at e1; simp [Value.ownBlock] at e1
    · rw [hv] at e1
      simp [Value.ownBlock] at e1
      subst e1
      rw [hh] at hk
      cases hk
  · rw [heap_setCell_other _ _ _ _ (fun e1 => h.ga1 (by show some g = some ga; rw [e1]))]; exact h.at'
  · rw [heap_setCell_other _ _ _ _ (fun e1 => by
      have := h.txt
      rw [show gs = g from e1, hh] at this
      cases this)]
    exact h.txt
  · exact h.below.setCell (p := ⟨g, e * 3 + 1, none⟩) (h.out.lt g rfl).1 _
end Go.Proofs.YtpjglenogifclaaGreatDoor
namespace Go.Proofs.YtpjglenogifclaaGreatDoor
set_option linter.all false
open Go.RowKit

/-- A part more. -/
theorem RdW.part {B ga gs : Nat} {w0 W : World} {s : ByteArray} {out : List Prt} {op : List Nat} {j : Nat} {o lf : Value} (h : RdW B ga gs w0 s out op j o lf W) (n : Nat) (k : Int) (x : ByteArray) (hL : out.length ≤ 1000000000) :
    ∃ o' w', (Builtin.append_ #[22, 22] 22 #[o, .slice (some ⟨W.heap.size, 0, none⟩) 1 1]).run Tryz.prog (W.alloc (.cells #[.int .u8 (n : Int), .int .i64 k, .string x] 28)) = .ok o' w' ∧ RdW B ga gs w0 s (out ++ [(n, k, x)]) op j o' lf w' := by
  obtain ⟨o', w', h1, h2, h3, h4⟩ := append_lit_eq (P := Tryz.prog) W #[.int .u8 (n : Int), .int .i64 k, .string x] 28 22 22 28 Tryz.underlying22 B Tinfo_part rfl (by decide) o out.length _ h.out 1 1 rfl (Nat.le_refl _) (by intro u hu; simp at hu; rcases hu with rfl | rfl | rfl <;> rfl) (by omega) (by omega) h.base
  have hga := keeps_lt h.at'
  refine ⟨o', w', h1, ⟨?_, grown_row (h.out.alloc _) h3 (h.opn.alloc _) (by decide), ?_, ?_, ?_, ?_, h.ga0, ?_, h.ga2⟩⟩
  · rw [partsV_append, List.length_append]; exact h2
  · exact grown_block (h.out.alloc _) h3 (by rw [Below.heap_alloc _ _ _ hga]; exact h.at') (by decide)
  · exact grown_block (h.out.alloc _) h3 (by rw [Below.heap_alloc _ _ _ (keeps_lt h.txt)]; exact h.txt) (by decide)
  · exact grown_keeps (h.below.alloc h.base _) (by simp; have := h.base; omega) (h.out.alloc _) h3
  · have := h3.size; simp at this; have := h.base; omega
  · rcases h4 with h4 | h4
    · rw [h4]; exact h.ga1
    · rw [h4]; intro e; simp only [Option.some.injEq] at e; omega
/-- A part more is open. -/
theorem RdW.push {B ga gs : Nat} {w0 W : World} {s : ByteArray} {out : List Prt} {op : List Nat} {j : Nat} {o lf : Value} (h : RdW B ga gs w0 s out op j o lf W) (e : Nat) (hL : op.length ≤ 1000000000) :
    ∃ o' w', (Builtin.append_ #[41, 41] 41 #[lf, .slice (some ⟨W.heap.size, 0, none⟩) 1 1]).run Tryz.prog (W.alloc (.cells #[.int .i64 (e : Int)] 3)) = .ok o' w' ∧ RdW B ga gs w0 s out (e :: op) j o o' w' ∧ ∀ (g : Nat) (cs : Array Value) (t : TypeId) (fr : Nat × Nat), t ≠ 3 → W.heap[g]? = some (Obj.cells cs t fr) → w'.heap[g]? = some (Obj.cells cs t fr) := by
  obtain ⟨o', w', h1, h2, h3, h4⟩ := append_lit_eq (P := Tryz.prog) W #[.int .i64 (e : Int)] 3 41 41 3 Tryz.underlying41 B Tinfo_int rfl (by decide) lf op.length _ h.opn 1 1 rfl (Nat.le_refl _) (by intro u hu; simp at hu; subst hu; rfl) (by omega) (by omega) h.base
  have hga := keeps_lt h.at'
  have hat : (W.alloc (.cells #[.int .i64 (e : Int)] 3)).heap[ga]? = some (.cells #[.int .i64 (j : Int)] 3 (0, 0)) := by rw [Below.heap_alloc _ _ _ hga]; exact h.at'
  refine ⟨o', w', h1, ⟨grown_row (h.opn.alloc _) h3 (h.out.alloc _) (by decide), ?_, ?_, ?_, ?_, ?_, h.ga0, h.ga1, ?_⟩, fun g cs t fr ht hg => grown_block (h.opn.alloc _) h3 (by rw [Below.heap_alloc _ _ _ (keeps_lt hg)]; exact hg) ht⟩
  · have : natV (e :: op).reverse = natV op.reverse ++ [.int .i64 (e : Int)] := by simp [natV]
    rw [this, List.length_cons]; exact h2
  · rw [h3.block ga (keeps_lt hat) (fun e1 => h.ga2 e1.symm)]; exact hat
  · exact grown_block (h.opn.alloc _) h3 (by rw [Below.heap_alloc _ _ _ (keeps_lt h.txt)]; exact h.txt) (by decide)
  · exact grown_keeps (h.below.alloc h.base _) (by simp; have := h.base; omega) (h.opn.alloc _) h3
  · have := h3.size; simp at this; have := h.base; omega
  · rcases h4 with h4 | h4
    · rw [h4]; exact h.ga2
    · rw [h4]; intro e; simp only [Option.some.injEq] at e; omega
end Go.Proofs.YtpjglenogifclaaGreatDoor
namespace Go.Proofs.YtpjglenogifclaaGreatDoor
set_option linter.all false
open Go.RowKit

/-- What Read answers. -/
def readZ (s : ByteArray) : List Prt × Int := if 1048576 < s.size then ([], 2) else match readF s with
  | some l => (l, 0)
  | none => ([], 9)
/-- What a round may lean on. -/
structure FinR (out : List Prt) (op : List Nat) (j : Nat) : Prop where
  len : out.length ≤ j
  opl : op.length ≤ out.length
  lt : ∀ e ∈ op, e < out.length
  kids : ∀ p ∈ out, 0 ≤ p.2.1 ∧ p.2.1 ≤ (j : Int)
theorem addK_kids : ∀ (l : List Prt) (k : Nat), ∀ p ∈ addK l k 1, ∃ q ∈ l, p.2.1 = q.2.1 ∨ p.2.1 = q.2.1 + 1
  | [], _, p, hp => by simp [addK] at hp
  | q :: r, 0, p, hp => by
    simp only [addK, List.mem_cons] at hp
    rcases hp with rfl | hp
    · exact ⟨q, List.mem_cons_self .., Or.inr rfl⟩
    · exact ⟨p, List.mem_cons_of_mem _ hp, Or.inl rfl⟩
  | q :: r, k + 1, p, hp => by
    simp only [addK, List.mem_cons] at hp
    rcases hp with rfl | hp
    · exact ⟨p, List.mem_cons_self .., Or.inl rfl⟩
    · obtain ⟨q', h1, h2⟩ := addK_kids r k p hp
      exact ⟨q', List.mem_cons_of_mem _ h1, h2⟩
theorem FinR.pop {out : List Prt} {h : Nat} {r : List Nat} {j : Nat} (f : FinR out (h :: r) j) : FinR out r (j + 1) :=
  ⟨by have := f.len; omega, by have := f.opl; simp only [List.length_cons] at this; omega, fun e he => f.lt e (List.mem_cons_of_mem _ he), fun p hp => by have := f.kids p hp; omega⟩
theorem FinR.kid {out : List Prt} {h : Nat} {r : List Nat} {j : Nat} (f : FinR out (h :: r) j) : FinR (addK out h 1) (h :: r) (j + 1) := by
  have hl : (addK out h 1).length = out.length := addK_length _ _ _
  refine ⟨by rw [hl]; have := f.len; omega, by rw [hl]; exact f.opl, fun e he => by rw [hl]; exact f.lt e he, fun p hp => ?_⟩
  obtain ⟨q, hq, e⟩ := addK_kids _ _ p hp
  have := f.kids q hq
  omega
theorem FinR.push {out : List Prt} {op : List Nat} {j t n : Nat} {x : ByteArray} (f : FinR out op j) (hj : j < t) : FinR (out ++ [(n, 0, x)]) (out.length :: op) t := by
  refine ⟨by have := f.len; simp; omega, by have := f.opl; simp; omega, fun e he => ?_, fun p hp => ?_⟩
  · rcases List.mem_cons.mp he with rfl | h
    · simp
    · have := f.lt e h; simp; omega
  · rcases List.mem_append.mp hp with h | h
    · have := f.kids p h; omega
    · simp only [List.mem_singleton] at h; subst h; simp
/-- What holds at the loop's head. -/
def rdRel (R : Option (List Prt × Nat)) (s : ByteArray) (ga gs : Nat) (w : World) (gk : Nat) (o lf f : Value) (W : World) : Prop :=
  ∃ (b : Bool) (j : Nat) (out : List Prt) (op : List Nat), f = .bool b ∧ gk = s.size - j ∧ j ≤ s.size ∧ RdW w.heap.size ga gs w s out op j o lf W ∧ FinR out op j ∧ (b = true → op = [] ∧ j = 0) ∧ (if b then readO s (readM s (s.size + 2)) out op j else readM s (s.size + 2) out op j) = R
theorem readM_step (s : ByteArray) (out : List Prt) (h : Nat) (r : List Nat) (j : Nat) (hj : j ≤ s.size) : readM s (s.size + 2) out (h :: r) j = if j < s.size ∧ bt s j = 41 then readM s (s.size + 2) out r (j + 1) else if j < s.size ∧ bt s j = 32 then readO s (readM s (s.size + 2)) (addK out h 1) (h :: r) (j + 1) else none := by
  have e : readM s (s.size + 2) out (h :: r) j = if j < s.size ∧ bt s j = 41 then readM s (s.size + 1) out r (j + 1) else if j < s.size ∧ bt s j = 32 then readO s (readM s (s.size + 1)) (addK out h 1) (h :: r) (j + 1) else none := rfl
  rw [e]
  by_cases c1 : j < s.size ∧ bt s j = 41
  · rw [if_pos c1, if_pos c1]; exact readM_fuel s _ _ _ _ _ (by omega) (by omega) (by omega) (by omega)
  · rw [if_neg c1, if_neg c1]
    by_cases c2 : j < s.size ∧ bt s j = 32
    · rw [if_pos c2, if_pos c2]
      unfold readO
      cases hp : partZ s (j + 1) with
      | none => rfl
      | some q =>
        obtain ⟨n, x, t⟩ := q
        have := partZ_lt hp
        exact readM_fuel s _ _ _ _ _ (by omega) (by omega) (by omega) (by omega)
    · rw [if_neg c2, if_neg c2]
theorem readM_end (s : ByteArray) (out : List Prt) (j : Nat) : readM s (s.size + 2) out [] j = some (out, j) := rfl
end Go.Proofs.YtpjglenogifclaaGreatDoor
namespace Go.Proofs.YtpjglenogifclaaGreatDoor
set_option linter.all false

/-- The kids' loop: how many, their forest, the place. -/
def rdK (s : ByteArray) (R : Nat → Option (List Prt × Nat)) : Nat → Int → List Prt → Nat → Option (Int × List Prt × Nat)
  | 0, _, _, _ => none
  | g + 1, c, l, j => if j < s.size ∧ bt s j = 32 then match R (j + 1) with
      | none => none
      | some (k, t) => rdK s R g (c + 1) (l ++ k) t
    else some (c, l, j)
/-- A tree at a place. -/
def rdZ (s : ByteArray) : Nat → Nat → Option (List Prt × Nat)
  | 0, _ => none
  | f + 1, i => match partZ s i with
    | none => none
    | some (n, x, t) => match rdK s (rdZ s f) (s.size + 1) 0 [] t with
      | none => none
      | some (c, l, j) => if j < s.size ∧ bt s j = 41 then some ((n, c, x) :: l, j + 1) else none
theorem rdK_le (s : ByteArray) (R : Nat → Option (List Prt × Nat)) (hR : ∀ i k t, R i = some (k, t) → i < t) : ∀ (g : Nat) (c : Int) (l : List Prt) (j : Nat) (c' : Int) (l' : List Prt) (j' : Nat), rdK s R g c l j = some (c', l', j') → j ≤ j'
  | 0, _, _, _, _, _, _, h => by cases h
  | g + 1, c, l, j, c', l', j', h => by
    unfold rdK at h
    split at h
    · cases hr : R (j + 1) with
      | none => rw [hr] at h; cases h
      | some q =>
        obtain ⟨k, t⟩ := q
        rw [hr] at h
        have h1 := hR _ _ _ hr
        have h2 := rdK_le s R hR g _ _ _ _ _ _ h
        omega
    · cases h; exact Nat.le_refl _
theorem rdZ_lt (s : ByteArray) : ∀ (f i : Nat) (k : List Prt) (t : Nat), rdZ s f i = some (k, t) → i < t ∧ t ≤ s.size
  | 0, _, _, _, h => by cases h
  | f + 1, i, k, t, h => by
    unfold rdZ at h
    cases hp : partZ s i with
    | none => rw [hp] at h; cases h
    | some q =>
      obtain ⟨n, x, u⟩ := q
      rw [hp] at h
      have h1 := partZ_lt hp
      simp only [] at h
      cases hk : rdK s (rdZ s f) (s.size + 1) 0 [] u with
      | none => rw [hk] at h; cases h
      | some q =>
        obtain ⟨c, l, j⟩ := q
        rw [hk] at h
        have h2 := rdK_le s _ (fun i k t h => (rdZ_lt s f i k t h).1) _ _ _ _ _ _ _ hk
        simp only [] at h
        split at h
        · cases h; omega
        · cases h
theorem addK_mid : ∀ (out : List Prt) (n : Nat) (c : Int) (x : ByteArray) (l : List Prt), addK (out ++ (n, c, x) :: l) out.length 1 = out ++ (n, c + 1, x) :: l
  | [], _, _, _, _ => rfl
  | p :: out, n, c, x, l => by
    show p :: addK (out ++ (n, c, x) :: l) out.length 1 = _
    rw [addK_mid out n c x l]; rfl
/-- The program's machine does what the document's recursion does. -/
theorem read_sim (s : ByteArray) : ∀ (f i : Nat), s.size < i + f → ∀ (out : List Prt) (op : List Nat), readO s (readM s (s.size + 2)) out op i = match rdZ s f i with
    | none => none
    | some (k, t) => readM s (s.size + 2) (out ++ k) op t
  | 0, i, hf, out, op => by
    have : partZ s i = none := by
      cases hp : partZ s i with
      | none => rfl
      | some q => obtain ⟨n, x, t⟩ := q; have := partZ_lt hp; omega
    unfold readO rdZ
    rw [this]
  | f + 1, i, hf, out, op => by
    unfold readO rdZ
    cases hp : partZ s i with
    | none => rfl
    | some q =>
      obtain ⟨n, x, t⟩ := q
      have ht := partZ_lt hp
      simp only []
      have simK : ∀ (g : Nat) (c : Int) (l : List Prt) (j : Nat), s.size < j + g → i < j → j ≤ s.size → readM s (s.size + 2) (out ++ (n, c, x) :: l) (out.length :: op) j = match rdK s (rdZ s f) g c l j with
          | none => none
          | some (c', l', j') => if j' < s.size ∧ bt s j' = 41 then readM s (s.size + 2) (out ++ (n, c', x) :: l') op (j' + 1) else none := by
        intro g
        induction g with
        | zero => intro c l j h1 h2 h3; omega
        | succ g ih =>
          intro c l j h1 h2 h3
          rw [readM_step _ _ _ _ _ h3]
          unfold rdK
          by_cases c1 : j < s.size ∧ bt s j = 41
          · rw [if_pos c1, if_neg (by omega)]
            simp only []
            rw [if_pos c1]
          · rw [if_neg c1]
            by_cases c2 : j < s.size ∧ bt s j = 32
            · rw [if_pos c2, if_pos c2, addK_mid, read_sim s f (j + 1) (by omega)]
              cases hr : rdZ s f (j + 1) with
              | none => rfl
              | some q =>
                obtain ⟨k, u⟩ := q
                have hu := rdZ_lt s f _ _ _ hr
                simp only []
                rw [← ih (c + 1) (l ++ k) u (by omega) (by omega) hu.2, List.append_assoc, List.cons_append]
            · rw [if_neg c2, if_neg c2]
              simp only []
              rw [if_neg c1]
      rw [simK (s.size + 1) 0 [] t (by omega) (by omega) ht.2.2]
      cases hk : rdK s (rdZ s f) (s.size + 1) 0 [] t with
      | none => rfl
      | some q =>
        obtain ⟨c, l, j⟩ := q
        simp only []
        split <;> rfl
/-- So both read alike. -/
theorem readF_is (s : ByteArray) : readF s = match rdZ s (s.size + 1) 0 with
    | some (l, t) => if t = s.size then some l else none
    | none => none := by
  unfold readF
  rw [read_sim s (s.size + 1) 0 (by omega)]
  cases h : rdZ s (s.size + 1) 0 with
  | none => rfl
  | some q => obtain ⟨l, t⟩ := q; rfl
end Go.Proofs.YtpjglenogifclaaGreatDoor
namespace Go.Proofs.YtpjglenogifclaaGreatDoor
set_option linter.all false

/-- The number that digits say. -/
def numD : List UInt8 → Nat → Nat
  | [], a => a
  | c :: r, a => numD r (10 * a + (c.toNat - 48))
def DigL (l : List UInt8) : Prop := ∀ c ∈ l, 48 ≤ c.toNat ∧ c.toNat ≤ 57
theorem numD_snoc : ∀ (l : List UInt8) (a : Nat) (c : UInt8), numD (l ++ [c]) a = 10 * numD l a + (c.toNat - 48)
  | [], a, c => rfl
  | d :: l, a, c => by rw [List.cons_append, numD, numD_snoc l]; rfl
theorem numD_ge : ∀ (l : List UInt8) (a : Nat), a ≤ numD l a
  | [], a => Nat.le_refl _
  | c :: r, a => by rw [numD]; have := numD_ge r (10 * a + (c.toNat - 48)); omega
theorem parseM_num (M : Nat) (hM : M < 1844674407370955162) : ∀ (l : List UInt8) (a : Nat), DigL l → a ≤ M → Lib.parseUintM M a l = if numD l a ≤ M then .ok (numD l a) else .range
  | [], a, _, ha => by rw [numD, if_pos ha]; rfl
  | c :: r, a, hd, ha => by
    have hc := hd c List.mem_cons_self
    unfold Lib.parseUintM
    rw [if_pos hc, if_neg (by omega), numD]
    have e : a * 10 + (c.toNat - 48) = 10 * a + (c.toNat - 48) := by omega
    rw [e]
    by_cases h : M < 10 * a + (c.toNat - 48)
    · rw [if_pos h, if_neg (by have := numD_ge r (10 * a + (c.toNat - 48)); omega)]
    · rw [if_neg h, parseM_num M hM r _ (fun d hd' => hd d (List.mem_cons_of_mem _ hd')) (by omega)]
/-- A number as the document reads it. -/
theorem kindZ_digs {ds : ByteArray} (hd : DigL ds.data.toList) : kindZ ds = if numD ds.data.toList 0 ≤ 255 ∧ ds.data.toList ≠ [] ∧ Lib.decDigits (numD ds.data.toList 0) = ds.data.toList then some (numD ds.data.toList 0) else none := by
  unfold kindZ Lib.parseUintB
  by_cases he : ds.data.toList = []
  · rw [if_pos he, if_neg (fun h => h.2.1 he)]
  · rw [if_neg he, parseM_num _ (by decide) _ _ hd (Nat.zero_le _), show 2 ^ 8 - 1 = 255 by rfl]
    by_cases h : numD ds.data.toList 0 ≤ 255
    · rw [if_pos h]
      simp only []
      by_cases h2 : Lib.decDigits (numD ds.data.toList 0) = ds.data.toList
      · rw [if_pos h2, if_pos ⟨h, he, h2⟩]
      · rw [if_neg h2, if_neg (fun g => h2 g.2.2)]
    · rw [if_neg h, if_neg (fun g => h g.1)]
theorem dEnd_digs (s : ByteArray) : ∀ (f j : Nat), DigL (s.extract j (dEnd s f j)).data.toList
  | 0, j => by intro c hc; rw [dEnd, extract_data, Nat.sub_self] at hc; simp at hc
  | f + 1, j => by
    rw [dEnd]
    split
    · rename_i h
      intro c hc
      rw [extract_data] at hc
      have hle := (dEnd_le s f (j + 1)).1
      have hl : j < s.data.toList.length := by rw [← size_data]; exact h.1
      rw [List.drop_eq_getElem_cons hl, show dEnd s f (j + 1) - j = (dEnd s f (j + 1) - (j + 1)) + 1 by omega, List.take_succ_cons] at hc
      rcases List.mem_cons.1 hc with rfl | hc
      · have e : bt s j = (s.data.toList[j]).toNat := by unfold bt; rw [get!_list, List.getD_eq_getElem?_getD, List.getElem?_eq_getElem hl]; rfl
        omega
      · have := dEnd_digs s f (j + 1) c
        rw [extract_data] at this
        exact this hc
    · intro c hc; rw [extract_data, Nat.sub_self] at hc; simp at hc
theorem dEnd_more (s : ByteArray) : ∀ (f g j : Nat), f ≤ g → dEnd s f j ≤ dEnd s g j ∧ (dEnd s f j = dEnd s g j ∨ (dEnd s f j = j + f ∧ dEnd s f j < s.size ∧ 48 ≤ bt s (dEnd s f j) ∧ bt s (dEnd s f j) ≤ 57))
  | 0, g, j, _ => by
    rw [dEnd]
    refine ⟨(dEnd_le s g j).1, ?_⟩
    cases g with
    | zero => exact Or.inl rfl
    | succ g =>
      rw [dEnd]
      split
      · rename_i h; exact Or.inr ⟨rfl, h⟩
      · exact Or.inl rfl
  | f + 1, 0, j, h => by omega
  | f + 1, g + 1, j, h => by
    rw [dEnd, dEnd]
    split
    · obtain ⟨h1, h2⟩ := dEnd_more s f g (j + 1) (by omega)
      refine ⟨h1, ?_⟩
      rcases h2 with h2 | ⟨h2, h3⟩
      · exact Or.inl h2
      · exact Or.inr ⟨by omega, h3⟩
    · exact ⟨Nat.le_refl _, Or.inl rfl⟩
/-- The head of a part, as the document reads it: three digits at most. -/
def partR (s : ByteArray) (i : Nat) : Option (Nat × ByteArray × Nat) :=
  if i < s.size ∧ bt s i = 40 then (match kindZ (s.extract (i + 1) (dEnd s 3 (i + 1))) with
    | none => none
    | some n => if dEnd s 3 (i + 1) + 1 < s.size ∧ bt s (dEnd s 3 (i + 1)) = 32 ∧ bt s (dEnd s 3 (i + 1) + 1) = 34 then wordZ s n (dEnd s 3 (i + 1) + 1) else some (n, ByteArray.empty, dEnd s 3 (i + 1)))
  else none
theorem partR_cases (s : ByteArray) (i : Nat) : partR s i = partZ s i ∨ (partZ s i = none ∧ (partR s i = none ∨ ∃ n t, partR s i = some (n, ByteArray.empty, t) ∧ i < t ∧ t < s.size ∧ 48 ≤ bt s t ∧ bt s t ≤ 57)) := by
  unfold partR partZ
  by_cases h : i < s.size ∧ bt s i = 40
  · rw [if_pos h, if_pos h]
    by_cases hs : 3 ≤ s.size - (i + 1)
    · obtain ⟨h1, h2⟩ := dEnd_more s 3 (s.size - (i + 1)) (i + 1) hs
      change dEnd s 3 (i + 1) ≤ dE s (i + 1) at h1
      rcases h2 with h2 | ⟨h2, h3, h4, h5⟩
      · change dEnd s 3 (i + 1) = dE s (i + 1) at h2
        rw [h2]; exact Or.inl rfl
      · refine Or.inr ⟨?_, ?_⟩
        · cases hk : kindZ (s.extract (i + 1) (dE s (i + 1))) with
          | none => rfl
          | some n =>
            exfalso
            obtain ⟨k1, _, k3⟩ := kindZ_lt hk
            have hle := dE_le s (i + 1)
            have hlen : (s.extract (i + 1) (dE s (i + 1))).data.toList.length = dE s (i + 1) - (i + 1) := by
              rw [← size_data, ByteArray.size_extract]; have := hle.2 (by omega); omega
            rw [← k3, Lib.decDigits_length] at hlen
            have := nd20 n k1
            have hne : dE s (i + 1) ≠ dEnd s 3 (i + 1) := by
              intro e
              have hd : dE s (dEnd s 3 (i + 1)) = dEnd s 3 (i + 1) + 1 + (dE s (dEnd s 3 (i + 1) + 1) - (dEnd s 3 (i + 1) + 1)) := by
                rw [dE_yes h3 h4 h5]
                have := (dE_le s (dEnd s 3 (i + 1) + 1)).1
                omega
              have hst : ∀ (f g j : Nat), f ≤ g → dEnd s g j = dEnd s (g - f) (dEnd s f j) ∨ dEnd s f j ≠ j + f := by
                intro f
                induction f with
                | zero => intro g j _; exact Or.inl rfl
                | succ f ih =>
                  intro g j hfg
                  obtain ⟨g, rfl⟩ : ∃ k, g = k + 1 := ⟨g - 1, by omega⟩
                  rw [dEnd, dEnd]
                  split
                  · rcases ih g (j + 1) (by omega) with e1 | e1
                    · left; rw [e1]; congr 1; omega
                    · right; intro e2; exact e1 (by omega)
                  · right; omega
              rcases hst 3 (s.size - (i + 1)) (i + 1) hs with e1 | e1
              · change dE s (i + 1) = _ at e1
                have e3 : s.size - (i + 1) - 3 = s.size - dEnd s 3 (i + 1) := by omega
                rw [e3] at e1
                change _ = dE s (dEnd s 3 (i + 1)) at e1
                omega
              · exact e1 h2
            omega
        · cases hk : kindZ (s.extract (i + 1) (dEnd s 3 (i + 1))) with
          | none => exact Or.inl rfl
          | some n =>
            right
            simp only []
            rw [if_neg (by omega)]
            exact ⟨n, _, rfl, by omega, h3, h4, h5⟩
    · obtain ⟨h1, h2⟩ := dEnd_more s (s.size - (i + 1)) 3 (i + 1) (by omega)
      rcases h2 with h2 | ⟨h2, h3, _⟩
      · change dE s (i + 1) = _ at h2
        rw [h2]; exact Or.inl rfl
      · omega
  · rw [if_neg h, if_neg h]; exact Or.inl rfl
/-- A tree, as the document reads it. -/
def rdR (s : ByteArray) : Nat → Nat → Option (List Prt × Nat)
  | 0, _ => none
  | f + 1, i => match partR s i with
    | none => none
    | some (n, x, t) => match rdK s (rdR s f) (s.size + 1) 0 [] t with
      | none => none
      | some (c, l, j) => if j < s.size ∧ bt s j = 41 then some ((n, c, x) :: l, j + 1) else none
theorem rdR_eq (s : ByteArray) : ∀ f, rdR s f = rdZ s f
  | 0 => rfl
  | f + 1 => by
    funext i
    rw [rdR, rdZ, rdR_eq s f]
    rcases partR_cases s i with h | ⟨h, h2 | ⟨n, t, h2, h3, h4, h5, h6⟩⟩
    · (rw [h]; try rfl)
    · rw [h, h2]
    · rw [h, h2]
      simp only []
      have : rdK s (rdZ s f) (s.size + 1) 0 [] t = some (0, [], t) := by
        unfold rdK; rw [if_neg (by omega)]
      rw [this]
      simp only []
      rw [if_neg (by omega)]
end Go.Proofs.YtpjglenogifclaaGreatDoor
namespace Go.Proofs.YtpjglenogifclaaGreatDoor
set_option linter.all false

theorem endB_drop (l : List Prt) (i j : Nat) : endB l (i + j) = i + endB (l.drop i) j := by
  unfold endB; rw [List.drop_drop]; omega
theorem kidsT_drop (l : List Prt) (i : Nat) (T T' : Nat → List UInt8) (hT : ∀ j, T (i + j) = T' j) : ∀ n a, kidsT l T n (i + a) = kidsT (l.drop i) T' n a
  | 0, a => rfl
  | n + 1, a => by rw [kidsT, kidsT, hT, endB_drop, kidsT_drop l i T T' hT n]
theorem treeX_drop (l : List Prt) (i : Nat) : ∀ f j, treeX l f (i + j) = treeX (l.drop i) f j
  | 0, j => rfl
  | f + 1, j => by
    rw [treeX, treeX, List.getElem?_drop]
    cases l[i + j]? with
    | none => rfl
    | some p => simp only []; rw [show i + j + 1 = i + (j + 1) by omega, kidsT_drop l i _ _ (treeX_drop l i f)]
theorem endB_app {k b : List Prt} {us vs : List Nat} (hk : rowsB k = some us) (hb : rowsB b = some vs) {j : Nat} (hj : j < k.length) : endB (k ++ b) j = endB k j := by
  obtain ⟨t, ts, h1, _, _, _⟩ := rows_at hk hj
  unfold endB
  rw [List.drop_append_of_le_length (by omega), headSize_of h1, headSize_of (show rowsB (k.drop j ++ b) = some (t :: (ts ++ vs)) from rowsB_app h1 hb)]
/-- A tree's text is its own. -/
theorem treeX_app {k b : List Prt} {us vs : List Nat} (hk : rowsB k = some us) (hb : rowsB b = some vs) : ∀ (f f' i : Nat), i < k.length → k.length - i ≤ f → k.length - i ≤ f' → treeX (k ++ b) f i = treeX k f' i
  | 0, f', i, hi, h, _ => by omega
  | f + 1, 0, i, hi, _, h => by omega
  | f + 1, f' + 1, i, hi, h, h' => by
    obtain ⟨ts, q, h1, h2, h3, h4, _⟩ := kids_facts hk hi
    have kids : ∀ (n m : Nat), n + m = q → kidsT (k ++ b) (treeX (k ++ b) f) n (i + 1 + (ts.take m).sum) = kidsT k (treeX k f') n (i + 1 + (ts.take m).sum) := by
      intro n
      induction n with
      | zero => intro m _; rfl
      | succ n ih =>
        intro m hm
        obtain ⟨s1, s2, _, _, _, _⟩ := kid_step hk h1 h3 (show m < q by omega)
        rw [kidsT, kidsT, treeX_app hk hb f f' _ s1 (by omega) (by omega), endB_app hk hb s1, s2, ih (m + 1) (by omega)]
    have hi2 : i < (k ++ b).length := by rw [List.length_append]; omega
    have e : (k ++ b)[i] = k[i] := List.getElem_append_left hi
    rw [treeX_at hi2, treeX_at hi, e, h2, Int.toNat_natCast]
    have := kids q 0 (by omega)
    simp only [List.take_zero, List.sum_nil, Nat.add_zero] at this
    rw [this]
theorem kidsT_app {k b : List Prt} {us vs : List Nat} (hk : rowsB k = some us) (hb : rowsB b = some vs) (f f' : Nat) (hf : k.length ≤ f) (hf' : k.length ≤ f') :
    ∀ (n m : Nat), n + m = us.length → kidsT (k ++ b) (treeX (k ++ b) f) n (us.take m).sum = kidsT k (treeX k f') n (us.take m).sum
  | 0, m, _ => rfl
  | n + 1, m, h => by
    obtain ⟨g1, g2⟩ := rowsB_sum hk
    have hs := rowsB_skip m hk (by omega)
    rw [List.drop_eq_getElem_cons (show m < us.length by omega)] at hs
    have hpos := g2.2 _ (List.getElem_mem (show m < us.length by omega))
    have hlt : (us.take m).sum < k.length := by
      rw [← g1, sum_split us m, List.drop_eq_getElem_cons (show m < us.length by omega), List.sum_cons]; omega
    have he : endB k (us.take m).sum = (us.take (m + 1)).sum := by
      unfold endB
      rw [headSize_of hs, List.take_succ_eq_append_getElem (show m < us.length by omega), List.sum_append]; simp
    rw [kidsT, kidsT, treeX_app hk hb f f' _ hlt (by omega) (by omega), endB_app hk hb hlt, he, kidsT_app hk hb f f' hf hf' n (m + 1) (by omega)]
/-- One tree more in a row. -/
theorem kidsT_snoc {l k : List Prt} {us : List Nat} (hl : rowsB l = some us) (hk : rowsB k = some [k.length]) (h0 : 0 < k.length) (f : Nat) (hf : l.length + k.length ≤ f) :
    kidsT (l ++ k) (treeX (l ++ k) f) (us.length + 1) 0 = kidsT l (treeX l f) us.length 0 ++ 32 :: treeX k f 0 := by
  have split : ∀ (n m a : Nat) (T : Nat → List UInt8), kidsT (l ++ k) T (n + m) a = kidsT (l ++ k) T n a ++ kidsT (l ++ k) T m (Nat.repeat (endB (l ++ k)) n a) := by
    intro n
    induction n with
    | zero => intro m a T; simp [kidsT, Nat.repeat]
    | succ n ih =>
      intro m a T
      have hr : ∀ (n a : Nat), Nat.repeat (endB (l ++ k)) (n + 1) a = Nat.repeat (endB (l ++ k)) n (endB (l ++ k) a) := by
        intro n
        induction n with
        | zero => intro a; rfl
        | succ n ih => intro a; show endB (l ++ k) (Nat.repeat _ (n + 1) a) = endB (l ++ k) (Nat.repeat _ n (endB (l ++ k) a)); rw [ih]
      rw [show n + 1 + m = (n + m) + 1 by omega, kidsT, kidsT, ih, hr]
      simp
  have hrep : ∀ n, n ≤ us.length → Nat.repeat (endB (l ++ k)) n 0 = (us.take n).sum := by
    intro n
    induction n with
    | zero => intro _; simp [Nat.repeat]
    | succ n ih =>
      intro hn
      show endB (l ++ k) (Nat.repeat _ n 0) = _
      rw [ih (by omega)]
      obtain ⟨g1, g2⟩ := rowsB_sum hl
      have hs := rowsB_skip n hl (by omega)
      rw [List.drop_eq_getElem_cons (show n < us.length by omega)] at hs
      have hpos := g2.2 _ (List.getElem_mem (show n < us.length by omega))
      have hlt : (us.take n).sum < l.length := by
        rw [← g1, sum_split us n, List.drop_eq_getElem_cons (show n < us.length by omega), List.sum_cons]; omega
      rw [endB_app hl hk hlt]
      unfold endB
      rw [headSize_of hs, List.take_succ_eq_append_getElem (show n < us.length by omega), List.sum_append]; simp
  have g1 := (rowsB_sum hl).1
  rw [split, hrep _ (Nat.le_refl _), List.take_length, g1]
  have hA := kidsT_app hl hk f f (by omega) (by omega) us.length 0 (by omega)
  simp only [List.take_zero, List.sum_nil] at hA
  rw [hA, kidsT, kidsT]
  have hd := treeX_drop (l ++ k) l.length f 0
  rw [Nat.add_zero, List.drop_left] at hd
  rw [hd, List.append_nil]
/-- A part with its kids, as a text. -/
theorem treeX_cons {p : Prt} {l : List Prt} {us : List Nat} (hl : rowsB l = some us) (hp : p.2.1 = (us.length : Int)) (f : Nat) (hf : l.length ≤ f) :
    treeX (p :: l) (f + 1) 0 = opn p ++ (kidsT l (treeX l f) us.length 0 ++ [41]) := by
  rw [treeX_at (by simp)]
  show opn p ++ (kidsT (p :: l) (treeX (p :: l) f) p.2.1.toNat (0 + 1) ++ [41]) = _
  rw [hp, Int.toNat_natCast]
  have := kidsT_drop (p :: l) 1 (treeX (p :: l) f) (treeX l f) (fun j => treeX_drop (p :: l) 1 f j) us.length 0
  rw [show (0 : Nat) + 1 = 1 + 0 by omega, this]
  rfl
end Go.Proofs.YtpjglenogifclaaGreatDoor
namespace Go.Proofs.YtpjglenogifclaaGreatDoor
set_option linter.all false

theorem drop_ext (s : ByteArray) (a b : Nat) (h : a ≤ b) : s.data.toList.drop a = (s.extract a b).data.toList ++ s.data.toList.drop b := by
  rw [extract_data]
  have := List.take_append_drop (b - a) (s.data.toList.drop a)
  rw [List.drop_drop, show a + (b - a) = b by omega] at this
  exact this.symm
theorem data_get (s : ByteArray) (i : Nat) (h : i < s.data.toList.length) : bt s i = (s.data.toList[i]).toNat := by
  unfold bt; rw [get!_list, List.getD_eq_getElem?_getD, List.getElem?_eq_getElem h]; rfl
theorem drop_byte (s : ByteArray) (i : Nat) (h : i < s.size) (c : UInt8) (hc : bt s i = c.toNat) : s.data.toList.drop i = c :: s.data.toList.drop (i + 1) := by
  have hl : i < s.data.toList.length := by rw [← size_data]; exact h
  rw [List.drop_eq_getElem_cons hl]
  congr 1
  rw [data_get s i hl] at hc
  exact UInt8.toNat_inj.1 hc
theorem wordZ_text {s : ByteArray} {n q a : Nat} {w : ByteArray} {t : Nat} (h : wordZ s n q = some (a, w, t)) : a = n ∧ q < t ∧ w.toList.isEmpty = false ∧ s.data.toList.drop q = (quote w).data.toList ++ s.data.toList.drop t := by
  obtain ⟨rfl, h1, h2, h3, h4⟩ := wordZ_lt h
  exact ⟨rfl, h1, h3, by rw [h4]; exact drop_ext s q t (by omega)⟩
theorem partZ_text {s : ByteArray} {i n : Nat} {x : ByteArray} {t : Nat} (h : partZ s i = some (n, x, t)) (c : Int) : s.data.toList.drop i = opn (n, c, x) ++ s.data.toList.drop t := by
  unfold partZ at h
  split at h
  · rename_i h1
    have hd := dE_le s (i + 1)
    cases hn : kindZ (s.extract (i + 1) (dE s (i + 1))) with
    | none => rw [hn] at h; cases h
    | some m =>
      rw [hn] at h
      have hm := (kindZ_lt hn).2.2
      simp only [] at h
      rw [drop_byte s i h1.1 40 h1.2, drop_ext s (i + 1) (dE s (i + 1)) hd.1, ← hm]
      split at h
      · rename_i hw
        obtain ⟨rfl, h2, h3, h4⟩ := wordZ_text h
        rw [drop_byte s _ (by omega) 32 hw.2.1, h4]
        unfold opn
        simp only []
        rw [h3]
        simp
      · simp only [Option.some.injEq, Prod.mk.injEq] at h
        obtain ⟨rfl, rfl, rfl⟩ := h
        unfold opn
        simp only []
        rw [if_pos (by rw [ByteArray.toList_eq]; rfl)]
        simp
  · cases h
/-- What is read at a place: a tree whose text stands there. -/
def Stood (s : ByteArray) (i : Nat) (k : List Prt) (t : Nat) : Prop := rowsB k = some [k.length] ∧ 0 < k.length ∧ ∀ F, k.length ≤ F → s.data.toList.drop i = treeX k F 0 ++ s.data.toList.drop t
theorem rdK_text (s : ByteArray) (R : Nat → Option (List Prt × Nat)) (hR : ∀ i k t, R i = some (k, t) → Stood s i k t) (i0 : Nat) (X : List UInt8) :
    ∀ (g : Nat) (c : Int) (l : List Prt) (j : Nat) (c' : Int) (l' : List Prt) (j' : Nat), rdK s R g c l j = some (c', l', j') → ∀ us, rowsB l = some us → c = (us.length : Int) →
    (∀ F, l.length ≤ F → X = kidsT l (treeX l F) us.length 0 ++ s.data.toList.drop j) →
    ∃ us', rowsB l' = some us' ∧ c' = (us'.length : Int) ∧ ∀ F, l'.length ≤ F → X = kidsT l' (treeX l' F) us'.length 0 ++ s.data.toList.drop j'
  | 0, _, _, _, _, _, _, h => by cases h
  | g + 1, c, l, j, c', l', j', h => by
    intro us hu hc hX
    unfold rdK at h
    split at h
    · rename_i hb
      cases hr : R (j + 1) with
      | none => rw [hr] at h; cases h
      | some q =>
        obtain ⟨k, t⟩ := q
        rw [hr] at h
        obtain ⟨h1, h2, h3⟩ := hR _ _ _ hr
        refine rdK_text s R hR i0 X g _ _ _ _ _ _ h (us ++ [k.length]) (rowsB_app hu h1) (by rw [List.length_append, hc]; simp) ?_
        intro F hF
        rw [List.length_append] at hF
        rw [hX F (by omega), List.length_append, List.length_singleton, kidsT_snoc hu h1 h2 F hF, drop_byte s j hb.1 32 hb.2, h3 F (by omega)]
        simp
    · cases h
      exact ⟨us, hu, hc, hX⟩
theorem rdZ_text (s : ByteArray) : ∀ (f i : Nat) (k : List Prt) (t : Nat), rdZ s f i = some (k, t) → Stood s i k t
  | 0, _, _, _, h => by cases h
  | f + 1, i, k, t, h => by
    unfold rdZ at h
    cases hp : partZ s i with
    | none => rw [hp] at h; cases h
    | some q =>
      obtain ⟨n, x, u⟩ := q
      rw [hp] at h
      simp only [] at h
      cases hk : rdK s (rdZ s f) (s.size + 1) 0 [] u with
      | none => rw [hk] at h; cases h
      | some q =>
        obtain ⟨c, l, j⟩ := q
        rw [hk] at h
        simp only [] at h
        split at h
        · rename_i hb
          cases h
          obtain ⟨us, hu, hc, hX⟩ := rdK_text s (rdZ s f) (rdZ_text s f) u (s.data.toList.drop u) _ _ _ _ _ _ _ hk [] rowsB_nil rfl (fun F _ => by simp [kidsT])
          obtain ⟨g1, g2, g3⟩ := rowsB_sum hu
          refine ⟨?_, by simp, fun F hF => ?_⟩
          · rw [rowsB_cons hu (by show (0 : Int) ≤ c; omega) (by show c ≤ _; omega)]
            show some ((1 + (us.take c.toNat).sum) :: us.drop c.toNat) = _
            rw [hc, Int.toNat_natCast, List.take_length, List.drop_length, g1, List.length_cons, Nat.add_comm]
          · rw [List.length_cons] at hF
            obtain ⟨F', rfl⟩ : ∃ F', F = F' + 1 := ⟨F - 1, by omega⟩
            rw [treeX_cons hu (show ((n, c, x) : Prt).2.1 = _ from hc) F' (by omega), partZ_text hp c, hX F' (by omega), drop_byte s j hb.1 41 hb.2]
            simp
        · cases h
/-- A text that is read: the list is well and its text is that one. -/
theorem read_show {s : ByteArray} {l : List Prt} (h : readZ s = (l, 0)) : wellB l = true ∧ showZ l = (s.data.toList, 0) := by
  unfold readZ at h
  split at h
  · cases h
  · rename_i hs
    rw [readF_is] at h
    cases hr : rdZ s (s.size + 1) 0 with
    | none => rw [hr] at h; cases h
    | some q =>
      obtain ⟨k, t⟩ := q
      rw [hr] at h
      simp only [] at h
      by_cases ht : t = s.size
      · rw [if_pos ht] at h
        cases h
        obtain ⟨h1, h2, h3⟩ := rdZ_text s _ _ _ _ hr
        have hw : wellB l = true := wellB_iff.2 h1
        have e := h3 l.length (Nat.le_refl _)
        rw [← showT_tree hw, ht, List.drop_zero, size_data, List.drop_length, List.append_nil] at e
        refine ⟨hw, ?_⟩
        unfold showZ
        rw [if_pos hw, ← e, if_neg (by rw [← size_data]; exact hs)]
      · rw [if_neg ht] at h; cases h
theorem quoteByte_pos (c : Nat) : 0 < (quoteByte c).length := by unfold quoteByte; split <;> (try split) <;> (try split) <;> simp
theorem flat_pos : ∀ (l : List UInt8), l.length ≤ (l.flatMap fun b => quoteByte b.toNat).length
  | [] => Nat.le_refl _
  | b :: l => by
    have h1 := flat_pos l
    have h2 := quoteByte_pos b.toNat
    rw [List.flatMap_cons, List.length_append, List.length_cons]; omega
theorem quote_ge (x : ByteArray) : x.size ≤ (quote x).size := by
  unfold quote quoteZ
  rw [strOfNums_size, List.length_append, List.length_append, size_data]
  have := flat_pos x.data.toList
  omega
theorem wordZ_size {s : ByteArray} {n q a : Nat} {w : ByteArray} {t : Nat} (h : wordZ s n q = some (a, w, t)) : w.size ≤ s.size := by
  obtain ⟨rfl, h1, h2, h3, h4⟩ := wordZ_lt h
  have := quote_ge w
  rw [h4, ByteArray.size_extract] at this
  omega
theorem partZ_size {s : ByteArray} {i n : Nat} {x : ByteArray} {t : Nat} (h : partZ s i = some (n, x, t)) : x.size ≤ s.size := by
  unfold partZ at h
  split at h
  · cases hn : kindZ (s.extract (i + 1) (dE s (i + 1))) with
    | none => rw [hn] at h; cases h
    | some m =>
      rw [hn] at h
      simp only [] at h
      split at h
      · exact wordZ_size h
      · simp only [Option.some.injEq, Prod.mk.injEq] at h
        obtain ⟨rfl, rfl, rfl⟩ := h
        exact Nat.zero_le _
  · cases h
/-- What is read is small. -/
def FineR (s : ByteArray) (k : List Prt) : Prop := ∀ p ∈ k, p.1 < 256 ∧ p.2.2.size ≤ s.size
theorem rdK_fine (s : ByteArray) (R : Nat → Option (List Prt × Nat)) (hR : ∀ i k t, R i = some (k, t) → FineR s k ∧ i + k.length ≤ t) :
    ∀ (g : Nat) (c : Int) (l : List Prt) (j : Nat) (c' : Int) (l' : List Prt) (j' : Nat), rdK s R g c l j = some (c', l', j') → FineR s l → FineR s l' ∧ j + l'.length ≤ j' + l.length
  | 0, _, _, _, _, _, _, h, _ => by cases h
  | g + 1, c, l, j, c', l', j', h, hl => by
    unfold rdK at h
    split at h
    · cases hr : R (j + 1) with
      | none => rw [hr] at h; cases h
      | some q =>
        obtain ⟨k, t⟩ := q
        rw [hr] at h
        obtain ⟨h1, h2⟩ := hR _ _ _ hr
        obtain ⟨h3, h4⟩ := rdK_fine s R hR g _ _ _ _ _ _ h (fun p hp => by
          rw [List.mem_append] at hp
          rcases hp with hp | hp
          · exact hl p hp
          · exact h1 p hp)
        rw [List.length_append] at h4
        exact ⟨h3, by omega⟩
    · cases h
      exact ⟨hl, Nat.le_refl _⟩
theorem rdZ_fine (s : ByteArray) : ∀ (f i : Nat) (k : List Prt) (t : Nat), rdZ s f i = some (k, t) → FineR s k ∧ i + k.length ≤ t
  | 0, _, _, _, h => by cases h
  | f + 1, i, k, t, h => by
    unfold rdZ at h
    cases hp : partZ s i with
    | none => rw [hp] at h; cases h
    | some q =>
      obtain ⟨n, x, u⟩ := q
      rw [hp] at h
      simp only [] at h
      cases hk : rdK s (rdZ s f) (s.size + 1) 0 [] u with
      | none => rw [hk] at h; cases h
      | some q =>
        obtain ⟨c, l, j⟩ := q
        rw [hk] at h
        simp only [] at h
        split at h
        · cases h
          have h1 := partZ_lt hp
          have h2 := partZ_size hp
          obtain ⟨h3, h4⟩ := rdK_fine s (rdZ s f) (rdZ_fine s f) _ _ _ _ _ _ _ hk (fun p hp => by cases hp)
          refine ⟨fun p hp => ?_, ?_⟩
          · rcases List.mem_cons.1 hp with rfl | hp
            · exact ⟨h1.1, h2⟩
            · exact h3 p hp
          · rw [List.length_cons]; simp at h4; omega
        · cases h
theorem readZ_fine (s : ByteArray) : FineR s (readZ s).1 ∧ (readZ s).1.length ≤ s.size := by
  have hnil : FineR s [] ∧ ([] : List Prt).length ≤ s.size := ⟨fun p hp => (by cases hp), Nat.zero_le _⟩
  unfold readZ
  split
  · exact hnil
  · rw [readF_is]
    cases hr : rdZ s (s.size + 1) 0 with
    | none => exact hnil
    | some q =>
      obtain ⟨k, t⟩ := q
      have h1 := rdZ_fine s _ _ _ _ hr
      have h2 := (rdZ_lt s _ _ _ _ hr).2
      simp only []
      split
      · rename_i k' hk'
        split at hk'
        · cases hk'; exact ⟨h1.1, by have := h1.2; show k.length ≤ _; omega⟩
        · cases hk'
      · exact hnil
theorem readZ_err (s : ByteArray) (h : (readZ s).2 ≠ 0) : (readZ s).1 = [] := by
  unfold readZ at h ⊢
  split
  · rfl
  · rename_i hs
    rw [if_neg hs] at h
    cases hr : readF s with
    | none => rfl
    | some l => rw [hr] at h; exact absurd rfl h
end Go.Proofs.YtpjglenogifclaaGreatDoor
