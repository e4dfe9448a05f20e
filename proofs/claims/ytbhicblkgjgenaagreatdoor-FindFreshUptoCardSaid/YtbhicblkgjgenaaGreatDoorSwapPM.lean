/- Layer 11 in plain Lean: trees in the place of parts. -/
import Derived.Test.YtbhicblkgjgenaaGreatDoorTermSameM
import Derived.Laws.CopyOwn
import Derived.Test.YtbhicblkgjgenaaGreatDoorCoreM
import Derived.StillTailTactics
namespace Go.Proofs.YtbhicblkgjgenaaGreatDoor
set_option linter.all false

/-- So many parts on from a place, before the part above ends. -/
def toZ (l : List Prt) (stop : Nat) : Nat → Nat → Option Nat
  | 0, tq => some tq
  | m + 1, tq => if stop ≤ tq then none else toZ l stop m (endB l tq)
/-- A part's number of kids, added tq. -/
def addK : List Prt → Nat → Int → List Prt
  | [], _, _ => []
  | p :: r, 0, d => (p.1, p.2.1 + d, p.2.2) :: r
  | p :: r, k + 1, d => p :: addK r k d
theorem addK_length : ∀ (l : List Prt) (k : Nat) (d : Int), (addK l k d).length = l.length
  | [], _, _ => rfl
  | p :: r, 0, d => rfl
  | p :: r, k + 1, d => by rw [addK, List.length_cons, List.length_cons, addK_length r k d]
theorem addK_append : ∀ (a b : List Prt) (k : Nat) (d : Int), k < a.length → addK (a ++ b) k d = addK a k d ++ b
  | [], b, k, d, h => by simp at h
  | p :: r, b, 0, d, h => rfl
  | p :: r, b, k + 1, d, h => by rw [List.cons_append, addK, addK, addK_append r b k d (by simpa using h), List.cons_append]
/-- What is swapped: the new list, or an error. -/
def swapZ (l : List Prt) (i n : Int) (b : List Prt) : List Prt × Int :=
  if wellB l = true then match rowsB b with
    | none => ([], 8)
    | some ks => if 0 ≤ i ∧ i < l.length ∧ 0 ≤ n ∧ (i = 0 → n = 1 ∧ ks.length = 1) then
        if i = 0 then (b, 0) else
          match toZ l (endB l (upI l i.toNat i.toNat).toNat) n.toNat i.toNat with
          | none => ([], 1)
          | some tq => (addK (l.take i.toNat) (upI l i.toNat i.toNat).toNat ((ks.length : Int) - n) ++ (b ++ l.drop tq), 0)
      else ([], 1)
  else ([], 8)
/-- More steps than there are places fail. -/
theorem toZ_big {l : List Prt} {us : List Nat} (h : rowsB l = some us) {stop : Nat} (hs : stop ≤ l.length) : ∀ (m tq : Nat), stop < tq + m → 0 < m → toZ l stop m tq = none
  | m + 1, tq, hm, _ => by
    rw [toZ]
    by_cases hc : stop ≤ tq
    · rw [if_pos hc]
    · rw [if_neg hc]
      have hg := endB_gt h (show tq < l.length by omega)
      rcases Nat.eq_zero_or_pos m with e | e
      · subst e; omega
      · exact toZ_big h hs m (endB l tq) (by omega) e
theorem toZ_min {l : List Prt} {us : List Nat} (h : rowsB l = some us) {stop : Nat} (hs : stop ≤ l.length) (n tq : Nat) : toZ l stop (min n (l.length + 1)) tq = toZ l stop n tq := by
  by_cases hn : n ≤ l.length + 1
  · rw [Nat.min_eq_left hn]
  · rw [Nat.min_eq_right (by omega), toZ_big h hs _ _ (by omega) (by omega), toZ_big h hs _ _ (by omega) (by omega)]
theorem toZ_le {l : List Prt} {us : List Nat} (h : rowsB l = some us) {stop : Nat} (hs : stop ≤ l.length) : ∀ (m tq e : Nat), tq ≤ l.length → toZ l stop m tq = some e → tq + m ≤ e ∧ e ≤ l.length
  | 0, tq, e, hl, he => by rw [toZ] at he; cases he; omega
  | m + 1, tq, e, hl, he => by
    rw [toZ] at he
    split at he
    · cases he
    · have hg := endB_gt h (show tq < l.length by omega)
      have := toZ_le h hs m (endB l tq) e hg.2 he
      omega
theorem upI_lt (l : List Prt) (i : Nat) : ∀ k, upI l i k < k
  | 0 => by rw [upI]; omega
  | k + 1 => by
    rw [upI]
    split
    · omega
    · have := upI_lt l i k; omega
theorem splice3 {α : Type} (Z A B C : List α) (h : Z.length = A.length + B.length + C.length) : splice (splice (splice Z 0 A) A.length B) (A.length + B.length) C = A ++ (B ++ C) := by
  unfold splice
  simp only [List.take_zero, List.nil_append, Nat.zero_add, List.append_assoc]
  have h1 : (A ++ List.drop A.length Z).take A.length = A := by rw [List.take_append_of_le_length (Nat.le_refl _), List.take_length]
  have h2 : (A ++ List.drop A.length Z).drop (A.length + B.length) = Z.drop (A.length + B.length) := by
    rw [List.drop_append, List.drop_of_length_le (by omega), List.nil_append, List.drop_drop]; congr 1; omega
  rw [h1, h2]
  have h3 : (A ++ (B ++ Z.drop (A.length + B.length))).take (A.length + B.length) = A ++ B := by
    rw [← List.append_assoc, List.take_append_of_le_length (by simp), List.take_of_length_le (by simp)]
  have h4 : (A ++ (B ++ Z.drop (A.length + B.length))).drop (A.length + B.length + C.length) = [] := by
    rw [← List.append_assoc, List.drop_of_length_le (by simp; omega)]
  rw [h3, h4, List.append_nil, List.append_assoc]
end Go.Proofs.YtbhicblkgjgenaaGreatDoor
namespace Go.Proofs.YtbhicblkgjgenaaGreatDoor
set_option linter.all false
open Go Go.RowKit

section
variable {P : Program}
theorem run_copy_rowN (w : World) (dT sT ty elem : TypeId) (g o dLen dCap : Nat) (a : Addr) (sLen sCap : Nat) (cur : Array Value) (t : TypeId) (cs : List Value) (sz : Nat)
    (hu : P.underlying dT = some (.slice elem)) (hs : (P.info? elem).map (·.size) = some sz)
    (hg : w.heap[g]? = some (.cells cur t (0, 0))) (hn : cs.length = Nat.min sLen dLen * sz)
    (hsrc : ∀ j v, cs[j]? = some v → w.cell? (a.add j) = some v) (hfit : o + cs.length ≤ cur.size) (h1 : ∀ v ∈ cs, v.oneCell' = true) :
    (Builtin.copy_ #[dT, sT] ty #[.slice (some ⟨g, o, none⟩) dLen dCap, .slice (some a) sLen sCap]).run P w =
      .ok (goInt (Nat.min sLen dLen)) (w.setRow g (cur.toList.take o ++ cs ++ cur.toList.drop (o + cs.length)).toArray) := by
  have hl := run_loadCells_list (P := P) w a cs hsrc
  have hst := run_storeCells_at P g o t cs 0 cur w hg (by simpa using hfit) h1
  cases hq : P.info? elem with
  | none => simp [hq] at hs
  | some i =>
    have hi : i.size = sz := by simpa [hq] using hs
    simp [Builtin.copy_, run_underlying hu, Builtin.lenOf, Builtin.firstCells, sizeOf, typeInfo, hq, hi, ← hn, hl, hst]
theorem run_copy_zeroN (w : World) (dT sT ty elem : TypeId) (d a : Option Addr) (dLen dCap sLen sCap : Nat) (sz : Nat)
    (hu : P.underlying dT = some (.slice elem)) (hs : (P.info? elem).map (·.size) = some sz) (hn : Nat.min sLen dLen = 0) :
    (Builtin.copy_ #[dT, sT] ty #[.slice d dLen dCap, .slice a sLen sCap]).run P w = .ok (goInt 0) w := by
  cases hq : P.info? elem with
  | none => simp [hq] at hs
  | some i =>
    have hi : i.size = sz := by simpa [hq] using hs
    have hl : ∀ (x : Addr), (loadCells x 0).run P w = .ok #[] w := fun x => by simpa using run_loadCells_list (P := P) w x [] (by simp)
    cases d <;> cases a <;> simp [Builtin.copy_, run_underlying hu, Builtin.lenOf, Builtin.firstCells, sizeOf, typeInfo, hq, hi, hn, storeCells, hl]
theorem wpList_copy_spliceN {w : World} {ops : Array Oper} {rest : List Oper} {o : Oper} {a : Act} {Q : Exit → Act → World → Prop} (hgd : o.guard = none) (d s : Operand) (dT sT : TypeId)
    (ho : o.op = .call { callee := .builtin .copy, args := #[d, s], argTypes := #[dT, sT] }) (elem : TypeId) (sz : Nat) (hz : 0 < sz) (hu : P.underlying dT = some (.slice elem)) (hsz : (P.info? elem).map (·.size) = some sz)
    (dp sp : Option Addr) (dLen dCap sLen sCap : Nat) (hd : a.eval d = .slice dp dLen dCap) (hs : a.eval s = .slice sp sLen sCap)
    (g off : Nat) (cur : List Value) (t : TypeId) (hg : w.heap[g]? = some (.cells cur.toArray t (0, 0))) (cs : List Value) (hn : cs.length = Nat.min sLen dLen * sz)
    (hpos : 0 < cs.length → dp = some ⟨g, off, none⟩ ∧ ∃ ad, sp = some ad ∧ ∀ j v, cs[j]? = some v → w.cell? (ad.add j) = some v)
    (hfit : off + cs.length ≤ cur.length) (h1 : ∀ v ∈ cs, v.oneCell' = true) (B : Nat) (w0 : World) (hb : Below B w0 w) (hBg : B ≤ g)
    (h : ∀ w', Hid (w'.heap[g]? = some (.cells (splice cur off cs).toArray t (0, 0))) → Below B w0 w' → wpList P ops Q rest (a.put o.dst (goInt (Nat.min sLen dLen))) w') :
    wpList P ops Q (o :: rest) a w := by
  refine wpList_plain hgd fun K hK => ?_
  by_cases h0 : cs.length = 0
  · have hm : Nat.min sLen dLen = 0 := by
      rcases Nat.eq_zero_or_pos (Nat.min sLen dLen) with e | e
      · exact e
      · have := Nat.mul_pos e hz; omega
    obtain rfl : cs = [] := List.eq_nil_of_length_eq_zero h0
    have hrun := run_copy_zeroN (P := P) w dT sT o.type elem dp sp dLen dCap sLen sCap sz hu hsz hm
    rw [hm] at h
    unfold Oper.wp
    simp [execOp, ho, resolve, invoke, builtin, hd, hs, hrun, Result.andThen]
    exact hK _ _ (h w (show _ = _ by simpa [splice] using hg) hb)
  · obtain ⟨rfl, ad, rfl, hsrc⟩ := hpos (by omega)
    have hrun := run_copy_rowN (P := P) w dT sT o.type elem g off dLen dCap ad sLen sCap cur.toArray t cs sz hu hsz hg hn hsrc (by simpa using hfit) h1
    unfold Oper.wp
    simp [execOp, ho, resolve, invoke, builtin, hd, hs, hrun, Result.andThen]
    exact hK _ _ (h _ (show _ = _ by simpa [splice] using setRow_heap w g _ _ t _ hg) (below_setRow hb hBg _))
/-- The run of a copy, as an equation that a walk takes by itself. -/
theorem copy_eqN (w : World) (dT sT ty elem : TypeId) (sz : Nat) (hz : 0 < sz) (hu : P.underlying dT = some (.slice elem)) (hsz : (P.info? elem).map (·.size) = some sz)
    (dp sp : Option Addr) (dLen dCap sLen sCap : Nat)
    (g off : Nat) (cur : List Value) (t : TypeId) (hg : w.heap[g]? = some (.cells cur.toArray t (0, 0))) (cs : List Value) (hn : cs.length = Nat.min sLen dLen * sz)
    (hpos : 0 < cs.length → dp = some ⟨g, off, none⟩ ∧ ∃ ad, sp = some ad ∧ ∀ j v, cs[j]? = some v → w.cell? (ad.add j) = some v)
    (hfit : off + cs.length ≤ cur.length) (h1 : ∀ v ∈ cs, v.oneCell' = true) (B : Nat) (w0 : World) (hb : Below B w0 w) (hBg : B ≤ g) :
    ∃ w', (Builtin.copy_ #[dT, sT] ty #[.slice dp dLen dCap, .slice sp sLen sCap]).run P w = .ok (goInt (Nat.min sLen dLen)) w' ∧ w'.heap[g]? = some (.cells (splice cur off cs).toArray t (0, 0)) ∧ Below B w0 w' := by
  by_cases h0 : cs.length = 0
  · have hm : Nat.min sLen dLen = 0 := by
      rcases Nat.eq_zero_or_pos (Nat.min sLen dLen) with e | e
      · exact e
      · have := Nat.mul_pos e hz; omega
    obtain rfl : cs = [] := List.eq_nil_of_length_eq_zero h0
    have hrun := run_copy_zeroN (P := P) w dT sT ty elem dp sp dLen dCap sLen sCap sz hu hsz hm
    rw [hm]
    exact ⟨w, hrun, by simpa [splice] using hg, hb⟩
  · obtain ⟨rfl, ad, rfl, hsrc⟩ := hpos (by omega)
    have hrun := run_copy_rowN (P := P) w dT sT ty elem g off dLen dCap ad sLen sCap cur.toArray t cs sz hu hsz hg hn hsrc (by simpa using hfit) h1
    exact ⟨_, hrun, by simpa [splice] using setRow_heap w g _ _ t _ hg, below_setRow hb hBg _⟩
end
end Go.Proofs.YtbhicblkgjgenaaGreatDoor
namespace Go.Proofs.YtbhicblkgjgenaaGreatDoor
set_option linter.all false
attribute [local irreducible] wpStill
open Go.RowKit

/-- What stands behind so many statements. -/
def sndN : Nat → Code → Code
  | 0, c => c
  | n + 1, .seq _ b => sndN n b
  | _, c => c
/-- The first of two statements. -/
def fstC : Code → Code
  | .seq a _ => a
  | c => c
theorem Tinfo_part : (Tryz.prog.info? 48).map (fun i => (i.zero, i.size, i.bytes)) = some (some (.agg #[.int .u8 0, .int .i64 0, .string ByteArray.empty]), 3, 32) := by kernel_rfl
theorem Tsize_part : (Tryz.prog.info? 48).map (·.size) = some 3 := by kernel_rfl
/-- The cells of a new row of parts. -/
def zeroP (n : Nat) : Array Value := madeCells #[.int .u8 0, .int .i64 0, .string ByteArray.empty] (n * 3)
theorem zeroP_size (n : Nat) : (zeroP n).size = n * 3 := size_madeCells _ _
/-- A row of n parts, made. -/
theorem Tmake_parts (n : Nat) (hn : n ≤ 1000000000) (w : World) :
    (Instr.makeSlice 23 (.int .i64 (n : Int)) (.int .i64 (n : Int))).run Tryz.prog w = .ok (.slice (some ⟨w.heap.size, 0, none⟩) n n) (w.alloc (.cells (zeroP n) 48)) := by
  obtain ⟨i, hi, hz, hsz, hb⟩ := info_parts Tinfo_part
  have hr := run_make (P := Tryz.prog) w 23 48 i _ Tryz.underlying23 hi hz .i64 .i64 (n : Int) (n : Int) (by omega) (Int.le_refl _) (by rw [hb]; omega) (by omega)
  rw [hsz] at hr
  rw [hr]
  simp only [Int.toNat_natCast]
  rfl
theorem partsV_one (l : List Prt) : ∀ u ∈ partsV l, u.oneCell' = true := by
  intro u hu
  unfold partsV at hu
  rw [List.mem_flatMap] at hu
  obtain ⟨p, _, hp⟩ := hu
  unfold partV at hp
  simp at hp
  rcases hp with rfl | rfl | rfl <;> rfl
/-- The cells of a piece of a row of parts. -/
theorem PartRow.piece {w : World} {b off n cap : Nat} {l : List Prt} (h : PartRow w (.slice (some ⟨b, off, Option.none⟩) n cap) l) (i e : Nat) (hi : i ≤ e) (he : e ≤ l.length) (j : Nat) (v : Value) (hv : (partsV ((l.drop i).take (e - i)))[j]? = some v) : w.cell? (Addr.add ⟨b, off + i * 3, Option.none⟩ j) = some v := by
  obtain ⟨h1, a', cap', hv', hc, _, h2⟩ := h
  simp only [Value.slice.injEq] at hv'
  obtain ⟨rfl, rfl, rfl⟩ := hv'
  have hj := (List.getElem?_eq_some_iff.1 hv).1
  rw [partsV_length, List.length_take, List.length_drop] at hj
  obtain ⟨b', off', ha, _, hcell⟩ := h2 (by omega)
  simp only [Option.some.injEq, Addr.mk.injEq, and_true] at ha
  obtain ⟨rfl, rfl⟩ := ha
  have e0 : ∀ o j, (⟨b, o, Option.none⟩ : Addr).add j = ⟨b, o + j, Option.none⟩ := by intro o j; simp [Addr.add]
  have e1 : (Addr.add ⟨b, off + i * 3, Option.none⟩ j : Addr) = ⟨b, off + (i * 3 + j), Option.none⟩ := by rw [e0, Nat.add_assoc]
  rw [e1, hcell _ (by omega), ← hv]
  have hsp : l = l.take i ++ ((l.drop i).take (e - i) ++ (l.drop i).drop (e - i)) := by rw [List.take_append_drop, List.take_append_drop]
  have hA : (partsV (l.take i)).length = i * 3 := by rw [partsV_length, List.length_take, Nat.min_eq_left (by omega)]
  conv => lhs; rw [hsp, partsV_append, partsV_append]
  rw [List.getElem?_append_right (by omega), hA, show i * 3 + j - i * 3 = j by omega, List.getElem?_append_left (by rw [partsV_length, List.length_take, List.length_drop]; omega)]
theorem addK_cells : ∀ (l : List Prt) (u : Nat) (d : Int) (hu : u < l.length), (partsV l).set (u * 3 + 1) (.int .i64 ((l[u]).2.1 + d)) = partsV (addK l u d)
  | p :: r, 0, d, _ => rfl
  | p :: r, u + 1, d, hu => by
    have ih := addK_cells r u d (by simpa using hu)
    have e : partsV (p :: r) = partV p ++ partsV r := rfl
    rw [addK, e, show partsV (p :: addK r u d) = partV p ++ partsV (addK r u d) from rfl, ← ih, List.set_append_right _ _ (by simp [partV]; omega)]
    congr 2
    simp [partV]; omega
/-- A row of parts in a block of the call's own. -/
theorem owns_parts {W : World} {B g : Nat} {m : List Prt} (h : W.heap[g]? = some (.cells (partsV m).toArray 48 (0, 0))) (hB : B ≤ g) (hm : m.length ≤ 100000000) : W.ownsRow B 48 3 (.slice (some ⟨g, 0, none⟩) m.length m.length) m.length (partsV m) :=
  ⟨partsV_length m, Or.inr ⟨g, m.length, (partsV m).toArray, rfl, hB, h, Nat.le_refl _, by unfold maxLen; omega, by simp [partsV_length], by simp [partsV_length, List.take_of_length_le]⟩⟩
/-- The new list. -/
def swOut (l b : List Prt) (I tq : Nat) (up d : Int) : List Prt := (if 0 ≤ up then addK (l.take I) up.toNat d else l.take I) ++ (b ++ l.drop tq)
end Go.Proofs.YtbhicblkgjgenaaGreatDoor
