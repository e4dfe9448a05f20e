/- Layer 11: what Read holds in memory, and how each step turns it. -/
import Derived.Test.YtpjglenogifclaaGreatDoorPartNM
import Derived.Test.YtpjglenogifclaaGreatDoorShowM
import Derived.Test.YtpjglenogifclaaGreatDoorSwapPM
import Derived.Test.YtpjglenogifclaaGreatDoorSwapM
import Derived.Deep.LoopGhost
import Derived.Deep.CutRange
namespace Go.Proofs.YtpjglenogifclaaGreatDoor
set_option linter.all false
open Go.RowKit

/-- What Read holds: the parts, those that are open, the place, the text. -/
structure RdW (B ga gs : Nat) (w0 : World) (s : ByteArray) (out : List Prt) (op : List Nat) (j : Nat) (o lf : Value) (W : World) : Prop where
  out : W.ownsRow B 28 3 o out.length (partsV out)
  opn : W.ownsRow B 3 1 lf op.length (natV op.reverse)
  at' : W.heap[ga]? = some (.cells #[.int .i64 (j : Int)] 3 (0, 0))
  txt : W.heap[gs]? = some (.cells #[.string s] 9 (0, 0))
  below : Below B w0 W
  base : B ≤ W.heap.size
  ga0 : B ≤ ga
  ga1 : o.ownBlock ≠ some ga
  ga2 : lf.ownBlock ≠ some ga
theorem RdW.cells {B ga gs : Nat} {w0 W : World} {s : ByteArray} {out : List Prt} {op : List Nat} {j : Nat} {o lf : Value} (h : RdW B ga gs w0 s out op j o lf W) :
    W.cell? ⟨ga, 0, none⟩ = some (.int .i64 (j : Int)) ∧ W.frozen? ⟨ga, 0, none⟩ = false ∧ W.cell? ⟨gs, 0, none⟩ = some (.string s) := by
  refine ⟨?_, ?_, ?_⟩
  · simp [World.cell?, h.at']
  · simp [World.frozen?, h.at']
  · simp [World.cell?, h.txt]
theorem RdW.later {B ga gs : Nat} {w0 W W' : World} {s : ByteArray} {out : List Prt} {op : List Nat} {j : Nat} {o lf : Value} (h : RdW B ga gs w0 s out op j o lf W) (hb : Below W.heap.size W W') : RdW B ga gs w0 s out op j o lf W' :=
  ⟨owns_below h.out hb, owns_below h.opn hb, keeps hb h.at', keeps hb h.txt, h.below.trans (hb.mono h.base), Nat.le_trans h.base hb.size, h.ga0, h.ga1, h.ga2⟩
/-- The place, moved. -/
theorem RdW.move {B ga gs : Nat} {w0 W : World} {s : ByteArray} {out : List Prt} {op : List Nat} {j : Nat} {o lf : Value} (h : RdW B ga gs w0 s out op j o lf W) (hne : gs ≠ ga) (t : Nat) : RdW B ga gs w0 s out op t o lf (W.setCell ⟨ga, 0, none⟩ (.int .i64 (t : Int))) := by
  refine ⟨ownsRow_setCell_other h.out h.ga1 _, ownsRow_setCell_other h.opn h.ga2 _, ?_, ?_, h.below.setCell (p := ⟨ga, 0, none⟩) h.ga0 _, by simpa using h.base, h.ga0, h.ga1, h.ga2⟩
  · exact heap_setCell_same W ga 0 _ _ _ h.at'
  · rw [heap_setCell_other _ _ _ _ (by exact hne)]; exact h.txt
/-- A part less is open. -/
theorem RdW.pop {B ga gs : Nat} {w0 W : World} {s : ByteArray} {out : List Prt} {e : Nat} {r : List Nat} {j : Nat} {o : Value} {g c : Nat} (h : RdW B ga gs w0 s out (e :: r) j o (.slice (some ⟨g, 0, none⟩) (r.length + 1) c) W) : RdW B ga gs w0 s out r j o (.slice (some ⟨g, 0, none⟩) r.length c) W := by
  refine ⟨h.out, ?_, h.at', h.txt, h.below, h.base, h.ga0, h.ga1, h.ga2⟩
  have := ownsRow_take h.opn (k := r.length) (by simp)
  rw [Nat.mul_one] at this
  have e1 : (natV (e :: r).reverse).take r.length = natV r.reverse := by
    unfold natV
    rw [List.reverse_cons, List.map_append, List.take_append_of_le_length (by simp), List.take_of_length_le (by simp)]
  rw [e1] at this
  exact this
/-- A kid more. -/
theorem RdW.kid {B ga gs : Nat} {w0 W : World} {s : ByteArray} {out : List Prt} {op : List Nat} {j : Nat} {lf : Value} {g c : Nat} (h : RdW B ga gs w0 s out op j (.slice (some ⟨g, 0, none⟩) out.length c) lf W) (e : Nat) (he : e < out.length) :
    W.cell? ⟨g, e * 3 + 1, none⟩ = some (.int .i64 (out[e]).2.1) ∧ W.frozen? ⟨g, e * 3 + 1, none⟩ = false ∧ RdW B ga gs w0 s (addK out e 1) op j (.slice (some ⟨g, 0, none⟩) out.length c) lf (W.setCell ⟨g, e * 3 + 1, none⟩ (.int .i64 ((out[e]).2.1 + 1))) := by
  have hfz : W.frozen? ⟨g, e * 3 + 1, none⟩ = false ∧ ∃ cs fr, W.heap[g]? = some (.cells cs 28 fr) := by
    rcases h.out.2 with ⟨hv, _⟩ | ⟨g', cap', cur, hv, _, hh, _⟩
    · cases hv
    · simp only [Value.slice.injEq, Option.some.injEq, Addr.mk.injEq, and_true, true_and] at hv
      obtain ⟨rfl, rfl⟩ := hv
      exact ⟨by simp [World.frozen?, hh], _, _, hh⟩
  obtain ⟨hf, cs, fr, hh⟩ := hfz
  have hset := owns_set h.out (e * 3 + 1) (by rw [partsV_length]; omega) (.int .i64 ((out[e]).2.1 + 1))
  rw [addK_cells _ _ _ he] at hset
  have hln : (addK out e 1).length = out.length := addK_length _ _ _
  refine ⟨by rw [h.out.cellAt _ (by omega)]; exact (partsV_at _ e he).2.1, hf, ?_, ?_, ?_, ?_, ?_, by simpa using h.base, h.ga0, h.ga1, h.ga2⟩
  · rw [hln]; exact hset
  · refine ownsRow_setCell_other h.opn (fun e1 => ?_) _
    rcases h.opn.2 with ⟨hv, _⟩ | ⟨k, cap, cur, hv, _, hk, _⟩
    · rw [hv] at e1; simp [Value.ownBlock] at e1
    · rw [hv] at e1
      simp [Value.ownBlock] at e1
      subst e1
      rw [hh] at hk
      cases hk
  · rw [heap_setCell_other _ _ _ _ (fun e1 => h.ga1 (by show some g = some ga; rw [e1]))]; exact h.at'
  · rw [heap_setCell_other _ _ _ _ (fun e1 => by
      have := h.txt
      rw [show gs = g from e1, hh] at this
      cases this)]
    exact h.txt
  · exact h.below.setCell (p := ⟨g, e * 3 + 1, none⟩) (h.out.lt g rfl).1 _
end Go.Proofs.YtpjglenogifclaaGreatDoor
namespace Go.Proofs.YtpjglenogifclaaGreatDoor
set_option linter.all false
open Go.RowKit

/-- A part more. -/
theorem RdW.part {B ga gs : Nat} {w0 W : World} {s : ByteArray} {out : List Prt} {op : List Nat} {j : Nat} {o lf : Value} (h : RdW B ga gs w0 s out op j o lf W) (n : Nat) (k : Int) (x : ByteArray) (hL : out.length ≤ 1000000000) :
    ∃ o' w', (Builtin.append_ #[22, 22] 22 #[o, .slice (some ⟨W.heap.size, 0, none⟩) 1 1]).run Tryz.prog (W.alloc (.cells #[.int .u8 (n : Int), .int .i64 k, .string x] 28)) = .ok o' w' ∧ RdW B ga gs w0 s (out ++ [(n, k, x)]) op j o' lf w' := by
  obtain ⟨o', w', h1, h2, h3, h4⟩ := append_lit_eq (P := Tryz.prog) W #[.int .u8 (n : Int), .int .i64 k, .string x] 28 22 22 28 Tryz.underlying22 B Tinfo_part rfl (by decide) o out.length _ h.out 1 1 rfl (Nat.le_refl _) (by intro u hu; simp at hu; rcases hu with rfl | rfl | rfl <;> rfl) (by omega) (by omega) h.base
  have hga := keeps_lt h.at'
  refine ⟨o', w', h1, ⟨?_, grown_row (h.out.alloc _) h3 (h.opn.alloc _) (by decide), ?_, ?_, ?_, ?_, h.ga0, ?_, h.ga2⟩⟩
  · rw [partsV_append, List.length_append]; exact h2
  · exact grown_block (h.out.alloc _) h3 (by rw [Below.heap_alloc _ _ _ hga]; exact h.at') (by decide)
  · exact grown_block (h.out.alloc _) h3 (by rw [Below.heap_alloc _ _ _ (keeps_lt h.txt)]; exact h.txt) (by decide)
  · exact grown_keeps (h.below.alloc h.base _) (by simp; have := h.base; omega) (h.out.alloc _) h3
  · have := h3.size; simp at this; have := h.base; omega
  · rcases h4 with h4 | h4
    · rw [h4]; exact h.ga1
    · rw [h4]; intro e; simp only [Option.some.injEq] at e; omega
/-- A part more is open. -/
theorem RdW.push {B ga gs : Nat} {w0 W : World} {s : ByteArray} {out : List Prt} {op : List Nat} {j : Nat} {o lf : Value} (h : RdW B ga gs w0 s out op j o lf W) (e : Nat) (hL : op.length ≤ 1000000000) :
    ∃ o' w', (Builtin.append_ #[41, 41] 41 #[lf, .slice (some ⟨W.heap.size, 0, none⟩) 1 1]).run Tryz.prog (W.alloc (.cells #[.int .i64 (e : Int)] 3)) = .ok o' w' ∧ RdW B ga gs w0 s out (e :: op) j o o' w' ∧ ∀ (g : Nat) (cs : Array Value) (t : TypeId) (fr : Nat × Nat), t ≠ 3 → W.heap[g]? = some (Obj.cells cs t fr) → w'.heap[g]? = some (Obj.cells cs t fr) := by
  obtain ⟨o', w', h1, h2, h3, h4⟩ := append_lit_eq (P := Tryz.prog) W #[.int .i64 (e : Int)] 3 41 41 3 Tryz.underlying41 B Tinfo_int rfl (by decide) lf op.length _ h.opn 1 1 rfl (Nat.le_refl _) (by intro u hu; simp at hu; subst hu; rfl) (by omega) (by omega) h.base
  have hga := keeps_lt h.at'
  have hat : (W.alloc (.cells #[.int .i64 (e : Int)] 3)).heap[ga]? = some (.cells #[.int .i64 (j : Int)] 3 (0, 0)) := by rw [Below.heap_alloc _ _ _ hga]; exact h.at'
  refine ⟨o', w', h1, ⟨grown_row (h.opn.alloc _) h3 (h.out.alloc _) (by decide), ?_, ?_, ?_, ?_, ?_, h.ga0, h.ga1, ?_⟩, fun g cs t fr ht hg => grown_block (h.opn.alloc _) h3 (by rw [Below.heap_alloc _ _ _ (keeps_lt hg)]; exact hg) ht⟩
  · have : natV (e :: op).reverse = natV op.reverse ++ [.int .i64 (e : Int)] := by simp [natV]
    rw [this, List.length_cons]; exact h2
  · rw [h3.block ga (keeps_lt hat) (fun e1 => h.ga2 e1.symm)]; exact hat
  · exact grown_block (h.opn.alloc _) h3 (by rw [Below.heap_alloc _ _ _ (keeps_lt h.txt)]; exact h.txt) (by decide)
  · exact grown_keeps (h.below.alloc h.base _) (by simp; have := h.base; omega) (h.opn.alloc _) h3
  · have := h3.size; simp at this; have := h.base; omega
  · rcases h4 with h4 | h4
    · rw [h4]; exact h.ga2
    · rw [h4]; intro e; simp only [Option.some.injEq] at e; omega
end Go.Proofs.YtpjglenogifclaaGreatDoor
namespace Go.Proofs.YtpjglenogifclaaGreatDoor
set_option linter.all false
open Go.RowKit

/-- What Read answers. -/
def readZ (s : ByteArray) : List Prt × Int := if 1048576 < s.size then ([], 2) else match readF s with
  | some l => (l, 0)
  | none => ([], 9)
/-- What a round may lean on. -/
structure FinR (out : List Prt) (op : List Nat) (j : Nat) : Prop where
  len : out.length ≤ j
  opl : op.length ≤ out.length
  lt : ∀ e ∈ op, e < out.length
  kids : ∀ p ∈ out, 0 ≤ p.2.1 ∧ p.2.1 ≤ (j : Int)
theorem addK_kids : ∀ (l : List Prt) (k : Nat), ∀ p ∈ addK l k 1, ∃ q ∈ l, p.2.1 = q.2.1 ∨ p.2.1 = q.2.1 + 1
  | [], _, p, hp => by simp [addK] at hp
  | q :: r, 0, p, hp => by
    simp only [addK, List.mem_cons] at hp
    rcases hp with rfl | hp
    · exact ⟨q, List.mem_cons_self .., Or.inr rfl⟩
    · exact ⟨p, List.mem_cons_of_mem _ hp, Or.inl rfl⟩
  | q :: r, k + 1, p, hp => by
    simp only [addK, List.mem_cons] at hp
    rcases hp with rfl | hp
    · exact ⟨p, List.mem_cons_self .., Or.inl rfl⟩
    · obtain ⟨q', h1, h2⟩ := addK_kids r k p hp
      exact ⟨q', List.mem_cons_of_mem _ h1, h2⟩
theorem FinR.pop {out : List Prt} {h : Nat} {r : List Nat} {j : Nat} (f : FinR out (h :: r) j) : FinR out r (j + 1) :=
  ⟨by have := f.len; omega, by have := f.opl; simp only [List.length_cons] at this; omega, fun e he => f.lt e (List.mem_cons_of_mem _ he), fun p hp => by have := f.kids p hp; omega⟩
theorem FinR.kid {out : List Prt} {h : Nat} {r : List Nat} {j : Nat} (f : FinR out (h :: r) j) : FinR (addK out h 1) (h :: r) (j + 1) := by
  have hl : (addK out h 1).length = out.length := addK_length _ _ _
  refine ⟨by rw [hl]; have := f.len; omega, by rw [hl]; exact f.opl, fun e he => by rw [hl]; exact f.lt e he, fun p hp => ?_⟩
  obtain ⟨q, hq, e⟩ := addK_kids _ _ p hp
  have := f.kids q hq
  omega
theorem FinR.push {out : List Prt} {op : List Nat} {j t n : Nat} {x : ByteArray} (f : FinR out op j) (hj : j < t) : FinR (out ++ [(n, 0, x)]) (out.length :: op) t := by
  refine ⟨by have := f.len; simp; omega, by have := f.opl; simp; omega, fun e he => ?_, fun p hp => ?_⟩
  · rcases List.mem_cons.mp he with rfl | h
    · simp
    · have := f.lt e h; simp; omega
  · rcases List.mem_append.mp hp with h | h
    · have := f.kids p h; omega
    · simp only [List.mem_singleton] at h; subst h; simp
/-- What holds at the loop's head. -/
def rdRel (R : Option (List Prt × Nat)) (s : ByteArray) (ga gs : Nat) (w : World) (gk : Nat) (o lf f : Value) (W : World) : Prop :=
  ∃ (b : Bool) (j : Nat) (out : List Prt) (op : List Nat), f = .bool b ∧ gk = s.size - j ∧ j ≤ s.size ∧ RdW w.heap.size ga gs w s out op j o lf W ∧ FinR out op j ∧ (b = true → op = [] ∧ j = 0) ∧ (if b then readO s (readM s (s.size + 2)) out op j else readM s (s.size + 2) out op j) = R
theorem readM_step (s : ByteArray) (out : List Prt) (h : Nat) (r : List Nat) (j : Nat) (hj : j ≤ s.size) : readM s (s.size + 2) out (h :: r) j = if j < s.size ∧ bt s j = 41 then readM s (s.size + 2) out r (j + 1) else if j < s.size ∧ bt s j = 32 then readO s (readM s (s.size + 2)) (addK out h 1) (h :: r) (j + 1) else none := by
  have e : readM s (s.size + 2) out (h :: r) j = if j < s.size ∧ bt s j = 41 then readM s (s.size + 1) out r (j + 1) else if j < s.size ∧ bt s j = 32 then readO s (readM s (s.size + 1)) (addK out h 1) (h :: r) (j + 1) else none := rfl
  rw [e]
  by_cases c1 : j < s.size ∧ bt s j = 41
  · rw [if_pos c1, if_pos c1]; exact readM_fuel s _ _ _ _ _ (by omega) (by omega) (by omega) (by omega)
  · rw [if_neg c1, if_neg c1]
    by_cases c2 : j < s.size ∧ bt s j = 32
    · rw [if_pos c2, if_pos c2]
      unfold readO
      cases hp : partZ s (j + 1) with
      | none => rfl
      | some q =>
        obtain ⟨n, x, t⟩ := q
        have := partZ_lt hp
        exact readM_fuel s _ _ _ _ _ (by omega) (by omega) (by omega) (by omega)
    · rw [if_neg c2, if_neg c2]
theorem readM_end (s : ByteArray) (out : List Prt) (j : Nat) : readM s (s.size + 2) out [] j = some (out, j) := rfl
end Go.Proofs.YtpjglenogifclaaGreatDoor
namespace Go.Proofs.YtpjglenogifclaaGreatDoor
set_option linter.all false
open Go.RowKit

set_option maxRecDepth 100000 in
set_option maxHeartbeats 16000000 in
theorem term_Read (s : ByteArray) (hs : s.size ≤ 100000000) (w : World) (hT : Tabs w) (hM : MaxC w) (hE : ErrC w) (hP : Lib.TabIs Tryz.prog w "internal/strconv.uint64pow10" .u64 Lib.pow10Tab) :
    Calls Tryz.prog 19 #[.string s] w (swapPost (readZ s) w) := by
  have HQ : RowKit.Hid (∀ v' m x w', readZ s = (m, x) → Below w.heap.size w w' → w'.ownsRow w.heap.size 28 3 v' m.length (partsV m) → swapPost (readZ s) w (.returned (.tuple #[v', .int .i64 x])) w') := Lib.hid fun v' m x w' h h2 h3 => by
    unfold swapPost; rw [h]; exact ⟨v', rfl, h2, h3⟩
  generalize swapPost (readZ s) w = Q at *
  have HT := Lib.hid hT
  have HM := Lib.hid hM
  have HE := Lib.hid hE
  have HP := Lib.hid (Lib.tabBelow_of_tabIs hP)
  clear hT hM hE hP
  have hA : Below w.heap.size w (w.alloc (.cells #[.string s] 9)) := (Below.refl _ _).alloc (Nat.le_refl _) _
  go_enter Tryz.func19, Tryz.ntmps19
  by_cases h1 : 1048576 < s.size
  · have h1i : (1048576 : Int) < (s.size : Int) := by omega
    have HX := Lib.hid (HQ.out (.slice none 0 0) [] 2 _ (by unfold readZ; rw [if_pos h1]) hA (World.ownsRow_nil _ _ _ _))
    clear hA
    go_wp2_with fail
    exact HX.out
  · have h1i : ¬ (1048576 : Int) < (s.size : Int) := by omega
    have HNO : RowKit.Hid (∀ w', readF s = none → Below w.heap.size w w' → Q (.returned (.tuple #[.slice none 0 0, .int .i64 9])) w') := Lib.hid fun w' h hb => HQ.out _ [] 9 w' (by unfold readZ; rw [if_neg h1, h]) hb (World.ownsRow_nil _ _ _ _)
    have HYES : RowKit.Hid (∀ l v' w', readF s = some l → Below w.heap.size w w' → w'.ownsRow w.heap.size 28 3 v' l.length (partsV l) → Q (.returned (.tuple #[v', .int .i64 0])) w') := Lib.hid fun l v' w' h hb ho => HQ.out _ l 0 w' (by unfold readZ; rw [if_neg h1, h]) hb ho
    clear HQ hA
    go_wp2_with fail
    have hA : Below w.heap.size w (w.alloc (.cells #[.string s] 9)) := (Below.refl _ _).alloc (Nat.le_refl _) _
    go_loopg [4, 5, 8] s.size (fun gk o lf f W => rdRel (readO s (readM s (s.size + 2)) [] [] 0) s (w.heap.size + 1) w.heap.size w gk o lf f W)
    case atStart =>
      exact ⟨true, 0, [], [], rfl, rfl, Nat.zero_le _, ⟨World.ownsRow_nil _ _ _ _, World.ownsRow_nil _ _ _ _, by simpa using heap_alloc_new (w.alloc (.cells #[.string s] 9)) _, by rw [Below.heap_alloc _ _ _ (by simp)]; exact heap_alloc_new _ _, hA.alloc (by simp) _, by simp; omega, by omega, by simp [Value.ownBlock], by simp [Value.ownBlock]⟩, ⟨by simp, by simp, by simp, by simp⟩, fun _ => ⟨rfl, rfl⟩, rfl⟩
    case round =>
      have HGA : RowKit.Hid (w.heap.size ≠ w.heap.size + 1) := Lib.hid (by omega)
      clear hA
      obtain ⟨b, j, out, op, rfl, rfl, hj, hW, hF, hb, hR⟩ := hrel
      generalize hgs : w.heap.size = gs at hW HGA ⊢
      generalize hga : gs + 1 = ga at hW HGA ⊢
      have HGS := Lib.hid hgs
      have HGE := Lib.hid hga
      have HW := Lib.hid hW
      have HF := Lib.hid hF
      generalize hrd : readO s (readM s (s.size + 2)) [] [] 0 = RR at hR
      have HRD := Lib.hid hrd
      have HJ := Lib.hid hj
      clear hW hF hrd hgs hga hj
      obtain ⟨_, oa, oc, rfl, hoc, _, _⟩ := Row.of_owns HW.out.out
      obtain ⟨_, la, lc, rfl, hlc, _, _⟩ := Row.of_owns HW.out.opn
      cases b with
      | true =>
        obtain ⟨rfl, rfl⟩ := hb rfl
        rw [if_pos rfl] at hR
        have HR := Lib.hid hR
        clear hb hR
        obtain ⟨hc1, hc2, hc3⟩ := HW.out.cells
        have HB1 : RowKit.Hid (Below w.heap.size w wr) := Lib.hid (by rw [HGS.out]; exact HW.out.below)
        have CP := Lib.hid (term_part s hs 0 (by have := HJ.out; omega) wr (HT.out.below HB1.out) (HM.out.below HB1.out) (HE.out.below HB1.out) (HP.out wr HB1.out))
        clear HB1
        go_wp2_with fail
        refine CP.out.mono ?_
        intro e w2 h2
        unfold partPost at h2
        obtain ⟨hb2, h2⟩ := h2
        have HW2 := Lib.hid (HW.out.later hb2)
        clear hb2 CP hc1 hc2 hc3
        cases hp : partZ s 0 with
        | none =>
          rw [hp] at h2
          obtain ⟨pa, pb, pc, px, rfl⟩ := h2
          have HX := Lib.hid (HNO.out (w2.alloc (.cells #[.int .u8 pa, .int .i64 pb, .string pc] 28)) (by
            have := HR.out; unfold readO at this; rw [hp] at this
            unfold readF; rw [HRD.out, ← this]) (by have h9 := HW2.out.below.alloc HW2.out.base (.cells #[.int .u8 pa, .int .i64 pb, .string pc] 28); rw [HGS.out]; exact h9))
          clear hp
          go_wp2_with fail
          exact HX.out
        | some q =>
          obtain ⟨n, x, t⟩ := q
          rw [hp] at h2
          simp only [] at h2
          subst h2
          have hlt3 := partZ_lt hp
          have hR2 := HR.out
          unfold readO at hR2
          rw [hp] at hR2
          have HR2 := Lib.hid hR2
          have HLT := Lib.hid hlt3
          clear hp hR2 hlt3
          have HW3 := Lib.hid (HW2.out.later ((Below.refl _ w2).alloc (Nat.le_refl _) (.cells #[.int .u8 (n : Int), .int .i64 0, .string x] 28)))
          have HG3 : RowKit.Hid (PK _ w2.heap.size (n, 0, x)) := Lib.hid (PK.alloc_new w2 (n, 0, x))
          have HGN : RowKit.Hid (w2.heap.size ≠ ga) := Lib.hid (by have := keeps_lt HW2.out.at'; omega)
          obtain ⟨hc1, hc2, hc3⟩ := HW3.out.cells
          go_upto_region 19 with (fail)
          generalize w2.alloc (.cells #[.int .u8 (n : Int), .int .i64 0, .string x] 28) = W3 at *
          generalize w2.heap.size = g at *
          have HW4 := Lib.hid (HW3.out.move HGA.out t)
          have HG4 : RowKit.Hid (PK (W3.setCell ⟨ga, 0, none⟩ (.int .i64 (t : Int))) g (n, 0, x)) := Lib.hid (by
            have := HG3.out
            unfold PK at this ⊢
            rw [heap_setCell_other _ _ _ _ (by exact HGN.out)]; exact this)
          go_upto_region 20 with (fail)
          generalize W3.setCell ⟨ga, 0, none⟩ (.int .i64 (t : Int)) = W4 at *
          clear hc1 hc2 hc3 HW3 HG3 HW2 HW
          obtain ⟨o5, w5, hrun5, hW5, hK5⟩ := HW4.out.push out.length (by have := HF.out.opl; have := HF.out.len; have := HJ.out; omega)
          have HG5 := Lib.hid (show PK w5 g (n, 0, x) from hK5 _ _ _ _ (by decide) HG4.out)
          have p0 := HG5.out.c0
          have p1 := HG5.out.c1
          have p2 := HG5.out.c2
          obtain ⟨o6, w6, hrun6, hW6⟩ := hW5.part n 0 x (by have := HF.out.len; have := HJ.out; omega)
          have HW6 := Lib.hid hW6
          have HNX : RowKit.Hid (rdRel (readO s (readM s (s.size + 2)) [] [] 0) s (w.heap.size + 1) w.heap.size w (s.size - t) o6 o5 (.bool false) w6) := Lib.hid (by
            rw [HGS.out, HGE.out, HRD.out]
            exact ⟨false, t, out ++ [(n, 0, x)], out.length :: [], rfl, rfl, HLT.out.2.2, by rw [HGS.out]; exact HW6.out, HF.out.push HLT.out.2.1, (fun h => by cases h), HR2.out⟩)
          have HMS : RowKit.Hid (s.size - t < s.size - 0) := Lib.hid (by have := HLT.out; have := HJ.out; omega)
          clear hW5 hK5 hW6 HW6 HG5 HG4 HW4
          go_upto_region 21 with (at_builtin; refine wpList_append_run rfl _ _ _ _ hrun5 rfl rfl rfl rfl ?_)
          clear hrun5
          go_wp2_with (at_builtin; refine wpList_append_run rfl _ _ _ _ hrun6 rfl rfl rfl rfl ?_)
          have e1 := HGE.out
          have e2 := HGS.out
          subst e1
          subst e2
          go_roundg (s.size - t)
          case measure => exact HMS.out
          case rel => exact HNX.out
      | false =>
        clear hb
        rw [if_neg (by decide)] at hR
        have HR := Lib.hid hR
        clear hR
        cases op with
        | nil =>
          have hRR := HR.out
          rw [readM_end] at hRR
          obtain ⟨hc1, hc2, hc3⟩ := HW.out.cells
          have HBX : RowKit.Hid (Below w.heap.size w wr) := Lib.hid (by rw [HGS.out]; exact HW.out.below)
          have HOX : RowKit.Hid (wr.ownsRow w.heap.size 28 3 _ out.length (partsV out)) := Lib.hid (by rw [HGS.out]; exact HW.out.out)
          by_cases hjs : j = s.size
          · have HX := Lib.hid (HYES.out out _ wr (by unfold readF; rw [HRD.out, ← hRR]; exact if_pos hjs) HBX.out HOX.out)
            subst hjs
            clear hRR
            simp only [List.length_nil] at *
            go_wp2_with fail
            exact HX.out
          · have hjn : ((j : Int) == (s.size : Int)) = false := by rw [beq_eq_false_iff_ne]; omega
            have hjn2 : ((j : Int) != (s.size : Int)) = true := by rw [bne_iff_ne]; omega
            have HX := Lib.hid (HNO.out wr (by unfold readF; rw [HRD.out, ← hRR]; exact if_neg hjs) HBX.out)
            clear hjs hRR
            simp only [List.length_nil] at *
            go_wp2_with fail
            exact HX.out
        | cons h r =>
          obtain ⟨gl, rfl⟩ := ownsRow_some HW.out.opn (by simp)
          have hh := HF.out.lt h (List.mem_cons_self ..)
          obtain ⟨gq, rfl⟩ := ownsRow_some HW.out.out (by omega)
          have hstep := HR.out
          rw [readM_step _ _ _ _ _ HJ.out] at hstep
          have HF2 := Lib.hid (show out.length ≤ 100000000 by have := HF.out.len; have := HJ.out; omega)
          have hrl2 : r.length + 1 ≤ 100000000 := by have := HF.out.opl; simp only [List.length_cons] at this; have := HF2.out; omega
          obtain ⟨hc1, hc2, hc3⟩ := HW.out.cells
          simp only [List.length_cons] at hlc
          simp only [List.length_cons]
          have hln0 : (0 : Int) < (r.length : Int) + 1 := by omega
          have hwl : IntKind.i64.wrap ((r.length : Int) + 1 - 1) = (r.length : Int) := by rw [IntKind.wrap_i64]; omega
          have hr0 : (0 : Int) ≤ (r.length : Int) := by omega
          have hrl : (r.length : Int) < (r.length : Int) + 1 := by omega
          have hrc : (r.length : Int) < lc := by omega
          have hrc' : (r.length : Int) ≤ lc := by omega
          have hhi : (h : Int) < (out.length : Int) := by omega
          have hhc : (h : Int) < (oc : Int) := by omega
          have hh0 : (0 : Int) ≤ (h : Int) := by omega
          by_cases c1 : j < s.size ∧ bt s j = 41
          · rw [if_pos c1] at hstep
            have CT := take_yes s hs j c1.1 ga gs wr hc1 hc2 hc3
            rw [c1.2] at CT
            have CT := Lib.hid CT
            have HW1 := Lib.hid (HW.out.move HGA.out (j + 1)).pop
            have HNX : RowKit.Hid (rdRel (readO s (readM s (s.size + 2)) [] [] 0) s (w.heap.size + 1) w.heap.size w (s.size - (j + 1)) (.slice (some ⟨gq, 0, none⟩) out.length oc) (.slice (some ⟨gl, 0, none⟩) r.length lc) (.bool false) _) := Lib.hid (by
              rw [HGS.out, HGE.out, HRD.out]
              exact ⟨false, j + 1, out, r, rfl, rfl, c1.1, by rw [HGS.out]; exact HW1.out, HF.out.pop, (fun h => by cases h), hstep⟩)
            have HMS : RowKit.Hid (s.size - (j + 1) < s.size - j) := Lib.hid (by omega)
            clear hstep c1
            go_wp2_with fail
            refine CT.out.mono ?_
            rintro e w1 ⟨rfl, rfl⟩
            clear CT HW1
            generalize wr.setCell ⟨ga, 0, none⟩ (.int .i64 ((j + 1 : Nat) : Int)) = W1 at *
            go_wp2_with fail
            have e1 := HGE.out
            have e2 := HGS.out
            subst e1
            subst e2
            go_roundg (s.size - (j + 1))
            case measure => exact HMS.out
            case rel => exact HNX.out
          · rw [if_neg c1] at hstep
            have CT := Lib.hid (take_no s hs j 41 c1 ga gs wr hc1 hc3)
            by_cases c2 : j < s.size ∧ bt s j = 32
            · rw [if_pos c2] at hstep
              have CT2 := take_yes s hs j c2.1 ga gs wr hc1 hc2 hc3
              rw [c2.2] at CT2
              have CT2 := Lib.hid CT2
              have HJ1 : RowKit.Hid (j + 1 ≤ s.size) := Lib.hid c2.1
              have HMJ : RowKit.Hid (j < j + 1) := Lib.hid (by omega)
              clear c1 c2
              go_wp2_with fail
              refine CT.out.mono ?_
              rintro e w1 ⟨rfl, rfl⟩
              go_wp2_with fail
              refine CT2.out.mono ?_
              rintro e w1 ⟨rfl, rfl⟩
              have hW1 := HW.out.move HGA.out (j + 1)
              clear CT CT2 HW hc1 hc2 hc3 HR
              generalize wr.setCell ⟨ga, 0, none⟩ (.int .i64 ((j + 1 : Nat) : Int)) = W1 at *
              have t0 : W1.cell? ⟨gl, r.length, none⟩ = some (.int .i64 (h : Int)) := by
                rw [hW1.opn.cellAt _ (by simp)]
                simp [natV]
              obtain ⟨k1, k2, hWk⟩ := hW1.kid h hh
              have hkb := HF.out.kids _ (List.getElem_mem hh)
              have hwk : IntKind.i64.wrap ((out[h]).2.1 + 1) = (out[h]).2.1 + 1 := by rw [IntKind.wrap_i64]; have := HJ.out; omega
              have HFk := Lib.hid HF.out.kid
              clear hkb hW1
              generalize (out[h]).2.1 = kd at *
              go_upto_region 16 with (fail)
              generalize W1.setCell ⟨gq, h * 3 + 1, none⟩ (.int .i64 (kd + 1)) = W2 at *
              have hlk : (addK out h 1).length = out.length := addK_length _ _ _
              generalize addK out h 1 = out2 at *
              have HWk := Lib.hid hWk
              have HRk := Lib.hid hstep
              clear hWk hstep k1 k2 t0 hwk hh
              have HF3 : RowKit.Hid (out2.length ≤ 100000000) := Lib.hid (by rw [hlk]; exact HF2.out)
              clear HF2 HF
              generalize hol : out.length = ol at *
              subst hlk
              obtain ⟨hc1, hc2, hc3⟩ := HWk.out.cells
              have HB1 : RowKit.Hid (Below w.heap.size w W2) := Lib.hid (by rw [HGS.out]; exact HWk.out.below)
              have CP := Lib.hid (term_part s hs (j + 1) (by have := HJ1.out; omega) W2 (HT.out.below HB1.out) (HM.out.below HB1.out) (HE.out.below HB1.out) (HP.out W2 HB1.out))
              clear HB1
              go_wp2_with fail
              refine CP.out.mono ?_
              intro e w2 h2
              unfold partPost at h2
              obtain ⟨hb2, h2⟩ := h2
              have HW2 := Lib.hid (HWk.out.later hb2)
              clear hb2 CP hc1 hc2 hc3
              cases hp : partZ s (j + 1) with
              | none =>
                rw [hp] at h2
                obtain ⟨pa, pb, pc, px, rfl⟩ := h2
                have HX := Lib.hid (HNO.out (w2.alloc (.cells #[.int .u8 pa, .int .i64 pb, .string pc] 28)) (by
                  have := HRk.out; unfold readO at this; rw [hp] at this
                  unfold readF; rw [HRD.out, ← this]) (by have h9 := HW2.out.below.alloc HW2.out.base (.cells #[.int .u8 pa, .int .i64 pb, .string pc] 28); rw [HGS.out]; exact h9))
                clear hp
                go_wp2_with fail
                exact HX.out
              | some q =>
                obtain ⟨n, x, t⟩ := q
                rw [hp] at h2
                simp only [] at h2
                subst h2
                have hlt3 := partZ_lt hp
                have hR2 := HRk.out
                unfold readO at hR2
                rw [hp] at hR2
                have HR2 := Lib.hid hR2
                have HLT := Lib.hid hlt3
                clear hp hR2 hlt3
                have HW3 := Lib.hid (HW2.out.later ((Below.refl _ w2).alloc (Nat.le_refl _) (.cells #[.int .u8 (n : Int), .int .i64 0, .string x] 28)))
                have HG3 : RowKit.Hid (PK _ w2.heap.size (n, 0, x)) := Lib.hid (PK.alloc_new w2 (n, 0, x))
                have HGN : RowKit.Hid (w2.heap.size ≠ ga) := Lib.hid (by have := keeps_lt HW2.out.at'; omega)
                obtain ⟨hc1, hc2, hc3⟩ := HW3.out.cells
                go_upto_region 19 with (fail)
                generalize w2.alloc (.cells #[.int .u8 (n : Int), .int .i64 0, .string x] 28) = W3 at *
                generalize w2.heap.size = g at *
                have HW4 := Lib.hid (HW3.out.move HGA.out t)
                have HG4 : RowKit.Hid (PK (W3.setCell ⟨ga, 0, none⟩ (.int .i64 (t : Int))) g (n, 0, x)) := Lib.hid (by
                  have := HG3.out
                  unfold PK at this ⊢
                  rw [heap_setCell_other _ _ _ _ (by exact HGN.out)]; exact this)
                go_upto_region 20 with (fail)
                generalize W3.setCell ⟨ga, 0, none⟩ (.int .i64 (t : Int)) = W4 at *
                clear hc1 hc2 hc3 HW3 HG3 HW2 HWk
                obtain ⟨o5, w5, hrun5, hW5, hK5⟩ := HW4.out.push out2.length (by have := HFk.out.opl; have := HFk.out.len; have := HJ1.out; omega)
                have HG5 := Lib.hid (show PK w5 g (n, 0, x) from hK5 _ _ _ _ (by decide) HG4.out)
                have p0 := HG5.out.c0
                have p1 := HG5.out.c1
                have p2 := HG5.out.c2
                obtain ⟨o6, w6, hrun6, hW6⟩ := hW5.part n 0 x (by have := HFk.out.len; have := HJ1.out; omega)
                have HW6 := Lib.hid hW6
                have HNX : RowKit.Hid (rdRel (readO s (readM s (s.size + 2)) [] [] 0) s (w.heap.size + 1) w.heap.size w (s.size - t) o6 o5 (.bool false) w6) := Lib.hid (by
                  rw [HGS.out, HGE.out, HRD.out]
                  exact ⟨false, t, out2 ++ [(n, 0, x)], out2.length :: (h :: r), rfl, rfl, HLT.out.2.2, by rw [HGS.out]; exact HW6.out, HFk.out.push HLT.out.2.1, (fun h => by cases h), HR2.out⟩)
                have HMS : RowKit.Hid (s.size - t < s.size - j) := Lib.hid (by have := HLT.out; have := HJ1.out; omega)
                clear hW5 hK5 hW6 HW6 HG5 HG4 HW4
                go_upto_region 21 with (at_builtin; refine wpList_append_run rfl _ _ _ _ hrun5 rfl rfl rfl rfl ?_)
                clear hrun5
                go_wp2_with (at_builtin; refine wpList_append_run rfl _ _ _ _ hrun6 rfl rfl rfl rfl ?_)
                have e1 := HGE.out
                have e2 := HGS.out
                subst e1
                subst e2
                go_roundg (s.size - t)
                case measure => exact HMS.out
                case rel => exact HNX.out
            · rw [if_neg c2] at hstep
              have CT2 := Lib.hid (take_no s hs j 32 c2 ga gs wr hc1 hc3)
              have HX := Lib.hid (HNO.out wr (by unfold readF; rw [HRD.out, ← hstep]) (by rw [HGS.out]; exact HW.out.below))
              clear c1 c2 hstep
              go_wp2_with fail
              refine CT.out.mono ?_
              rintro e w1 ⟨rfl, rfl⟩
              go_wp2_with fail
              refine CT2.out.mono ?_
              rintro e w1 ⟨rfl, rfl⟩
              go_wp2_with fail
              exact HX.out
end Go.Proofs.YtpjglenogifclaaGreatDoor
namespace Go.Proofs.YtpjglenogifclaaGreatDoor
set_option linter.all false
open Go.RowKit

/-- The document's term. -/
def sumL : List Prt := [(37, 2, ⟨#[43]⟩), (26, 0, ⟨#[97]⟩), (26, 0, ⟨#[98]⟩)]
theorem lit_owns (w : World) (B : Nat) (hB : B ≤ w.heap.size) (l : List Prt) (hl : l.length ≤ 1000000) :
    (w.alloc (.cells (partsV l).toArray 28)).ownsRow B 28 3 (.slice (some ⟨w.heap.size, 0, none⟩) l.length l.length) l.length (partsV l) := by
  refine ⟨by rw [partsV_length], Or.inr ⟨w.heap.size, l.length, (partsV l).toArray, rfl, hB, heap_alloc_new _ _, Nat.le_refl _, by unfold maxLen; omega, by simp [partsV_length], by simp [List.take_of_length_le, partsV_length]⟩⟩
theorem law_sum (w : World) : Calls Tryz.prog 32 #[] w fun e w' => e = .returned (.slice (some ⟨w.heap.size, 0, none⟩) 3 3) ∧ Below w.heap.size w w' ∧ w'.ownsRow w.heap.size 28 3 (.slice (some ⟨w.heap.size, 0, none⟩) 3 3) 3 (partsV sumL) := by
  have HX : RowKit.Hid ((fun (e : Ending) w' => e = .returned (.slice (some ⟨w.heap.size, 0, none⟩) 3 3) ∧ Below w.heap.size w w' ∧ w'.ownsRow w.heap.size 28 3 (.slice (some ⟨w.heap.size, 0, none⟩) 3 3) 3 (partsV sumL)) (.returned (.slice (some ⟨w.heap.size, 0, none⟩) 3 3)) (w.alloc (.cells (partsV sumL).toArray 28))) := Lib.hid ⟨rfl, (Below.refl _ _).alloc (Nat.le_refl _) _, lit_owns w w.heap.size (Nat.le_refl _) sumL (by decide)⟩
  generalize (fun (e : Ending) w' => e = .returned (.slice (some ⟨w.heap.size, 0, none⟩) 3 3) ∧ Below w.heap.size w w' ∧ w'.ownsRow w.heap.size 28 3 (.slice (some ⟨w.heap.size, 0, none⟩) 3 3) 3 (partsV sumL)) = Q at *
  go_enter Tryz.func32, Tryz.ntmps32
  go_wp2_with fail
  exact HX.out
end Go.Proofs.YtpjglenogifclaaGreatDoor
