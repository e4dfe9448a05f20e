/- Layer 11 in plain Lean: trees in the place of parts. -/
import Derived.Test.YtpjglenogifclaaGreatDoorTerm3M
import Derived.Laws.CopyOwn
import Derived.Test.YtpjglenogifclaaGreatDoorCoreM
import Derived.StillTailTactics
namespace Go.Proofs.YtpjglenogifclaaGreatDoor
set_option linter.all false

/-- So many parts on from a place, before the part above ends. -/
def toZ (l : List Prt) (stop : Nat) : Nat → Nat → Option Nat
  | 0, tq => some tq
  | m + 1, tq => if stop ≤ tq then none else toZ l stop m (endB l tq)
/-- A part's number of kids, added tq. -/
def addK : List Prt → Nat → Int → List Prt
  | [], _, _ => []
  | p :: r, 0, d => (p.1, p.2.1 + d, p.2.2) :: r
  | p :: r, k + 1, d => p :: addK r k d
theorem addK_length : ∀ (l : List Prt) (k : Nat) (d : Int), (addK l k d).length = l.length
  | [], _, _ => rfl
  | p :: r, 0, d => rfl
  | p :: r, k + 1, d => by rw [addK, List.length_cons, List.length_cons, addK_length r k d]
theorem addK_append : ∀ (a b : List Prt) (k : Nat) (d : Int), k < a.length → addK (a ++ b) k d = addK a k d ++ b
  | [], b, k, d, h => by simp at h
  | p :: r, b, 0, d, h => rfl
  | p :: r, b, k + 1, d, h => by rw [List.cons_append, addK, addK, addK_append r b k d (by simpa using h), List.cons_append]
/-- What is swapped: the new list, or an error. -/
def swapZ (l : List Prt) (i n : Int) (b : List Prt) : List Prt × Int :=
  if wellB l = true then match rowsB b with
    | none => ([], 8)
    | some ks => if 0 ≤ i ∧ i < l.length ∧ 0 ≤ n ∧ (i = 0 → n = 1 ∧ ks.length = 1) then
        if i = 0 then (b, 0) else
          match toZ l (endB l (upI l i.toNat i.toNat).toNat) n.toNat i.toNat with
          | none => ([], 1)
          | some tq => (addK (l.take i.toNat) (upI l i.toNat i.toNat).toNat ((ks.length : Int) - n) ++ (b ++ l.drop tq), 0)
      else ([], 1)
  else ([], 8)
/-- More steps than there are places fail. -/
theorem toZ_big {l : List Prt} {us : List Nat} (h : rowsB l = some us) {stop : Nat} (hs : stop ≤ l.length) : ∀ (m tq : Nat), stop < tq + m → 0 < m → toZ l stop m tq = none
  | m + 1, tq, hm, _ => by
    rw [toZ]
    by_cases hc : stop ≤ tq
    · rw [if_pos hc]
    · rw [if_neg hc]
      have hg := endB_gt h (show tq < l.length by omega)
      rcases Nat.eq_zero_or_pos m with e | e
      · subst e; omega
      · exact toZ_big h hs m (endB l tq) (by omega) e
theorem toZ_min {l : List Prt} {us : List Nat} (h : rowsB l = some us) {stop : Nat} (hs : stop ≤ l.length) (n tq : Nat) : toZ l stop (min n (l.length + 1)) tq = toZ l stop n tq := by
  by_cases hn : n ≤ l.length + 1
  · rw [Nat.min_eq_left hn]
  · rw [Nat.min_eq_right (by omega), toZ_big h hs _ _ (by omega) (by omega), toZ_big h hs _ _ (by omega) (by omega)]
theorem toZ_le {l : List Prt} {us : List Nat} (h : rowsB l = some us) {stop : Nat} (hs : stop ≤ l.length) : ∀ (m tq e : Nat), tq ≤ l.length → toZ l stop m tq = some e → tq + m ≤ e ∧ e ≤ l.length
  | 0, tq, e, hl, he => by rw [toZ] at he; cases he; omega
  | m + 1, tq, e, hl, he => by
    rw [toZ] at he
    split at he
    · cases he
    · have hg := endB_gt h (show tq < l.length by omega)
      have := toZ_le h hs m (endB l tq) e hg.2 he
      omega
theorem upI_lt (l : List Prt) (i : Nat) : ∀ k, upI l i k < k
  | 0 => by rw [upI]; omega
  | k + 1 => by
    rw [upI]
    split
    · omega
    · have := upI_lt l i k; omega
theorem splice3 {α : Type} (Z A B C : List α) (h : Z.length = A.length + B.length + C.length) : splice (splice (splice Z 0 A) A.length B) (A.length + B.length) C = A ++ (B ++ C) := by
  unfold splice
  simp only [List.take_zero, List.nil_append, Nat.zero_add, List.append_assoc]
  have h1 : (A ++ List.drop A.length Z).take A.length = A := by rw [List.take_append_of_le_length (Nat.le_refl _), List.take_length]
  have h2 : (A ++ List.drop A.length Z).drop (A.length + B.length) = Z.drop (A.length + B.length) := by
    rw [List.drop_append, List.drop_of_length_le (by omega), List.nil_append, List.drop_drop]; congr 1; omega
  rw [h1, h2]
  have h3 : (A ++ (B ++ Z.drop (A.length + B.length))).take (A.length + B.length) = A ++ B := by
    rw [← List.append_assoc, List.take_append_of_le_length (by simp), List.take_of_length_le (by simp)]
  have h4 : (A ++ (B ++ Z.drop (A.length + B.length))).drop (A.length + B.length + C.length) = [] := by
    rw [← List.append_assoc, List.drop_of_length_le (by simp; omega)]
  rw [h3, h4, List.append_nil, List.append_assoc]
end Go.Proofs.YtpjglenogifclaaGreatDoor
namespace Go.Proofs.YtpjglenogifclaaGreatDoor
set_option linter.all false
open Go Go.RowKit

section
variable {P : Program}
theorem run_copy_rowN (w : World) (dT sT ty elem : TypeId) (g o dLen dCap : Nat) (a : Addr) (sLen sCap : Nat) (cur : Array Value) (t : TypeId) (cs : List Value) (sz : Nat)
    (hu : P.underlying dT = some (.slice elem)) (hs : (P.info? elem).map (·.size) = some sz)
    (hg : w.heap[g]? = some (.cells cur t (0, 0))) (hn : cs.length = Nat.min sLen dLen * sz)
    (hsrc : ∀ j v, cs[j]? = some v → w.cell? (a.add j) = some v) (hfit : o + cs.length ≤ cur.size) (h1 : ∀ v ∈ cs, v.oneCell' = true) :
    (Builtin.copy_ #[dT, sT] ty #[.slice (some ⟨g, o, none⟩) dLen dCap, .slice (some a) sLen sCap]).run P w =
      .ok (goInt (Nat.min sLen dLen)) (w.setRow g (cur.toList.take o ++ cs ++ cur.toList.drop (o + cs.length)).toArray) := by
  have hl := run_loadCells_list (P := P) w a cs hsrc
  have hst := run_storeCells_at P g o t cs 0 cur w hg (by simpa using hfit) h1
  cases hq : P.info? elem with
  | none => simp [hq] at hs
  | some i =>
    have hi : i.size = sz := by simpa [hq] using hs
    simp [Builtin.copy_, run_underlying hu, Builtin.lenOf, Builtin.firstCells, sizeOf, typeInfo, hq, hi, ← hn, hl, hst]
theorem run_copy_zeroN (w : World) (dT sT ty elem : TypeId) (d a : Option Addr) (dLen dCap sLen sCap : Nat) (sz : Nat)
    (hu : P.underlying dT = some (.slice elem)) (hs : (P.info? elem).map (·.size) = some sz) (hn : Nat.min sLen dLen = 0) :
    (Builtin.copy_ #[dT, sT] ty #[.slice d dLen dCap, .slice a sLen sCap]).run P w = .ok (goInt 0) w := by
  cases hq : P.info? elem with
  | none => simp [hq] at hs
  | some i =>
    have hi : i.size = sz := by simpa [hq] using hs
    have hl : ∀ (x : Addr), (loadCells x 0).run P w = .ok #[] w := fun x => by simpa using run_loadCells_list (P := P) w x [] (by simp)
    cases d <;> cases a <;> simp [Builtin.copy_, run_underlying hu, Builtin.lenOf, Builtin.firstCells, sizeOf, typeInfo, hq, hi, hn, storeCells, hl]
theorem wpList_copy_spliceN {w : World} {ops : Array Oper} {rest : List Oper} {o : Oper} {a : Act} {Q : Exit → Act → World → Prop} (hgd : o.guard = none) (d s : Operand) (dT sT : TypeId)
    (ho : o.op = .call { callee := .builtin .copy, args := #[d, s], argTypes := #[dT, sT] }) (elem : TypeId) (sz : Nat) (hz : 0 < sz) (hu : P.underlying dT = some (.slice elem)) (hsz : (P.info? elem).map (·.size) = some sz)
    (dp sp : Option Addr) (dLen dCap sLen sCap : Nat) (hd : a.eval d = .slice dp dLen dCap) (hs : a.eval s = .slice sp sLen sCap)
    (g off : Nat) (cur : List Value) (t : TypeId) (hg : w.heap[g]? = some (.cells cur.toArray t (0, 0))) (cs : List Value) (hn : cs.length = Nat.min sLen dLen * sz)
    (hpos : 0 < cs.length → dp = some ⟨g, off, none⟩ ∧ ∃ ad, sp = some ad ∧ ∀ j v, cs[j]? = some v → w.cell? (ad.add j) = some v)
    (hfit : off + cs.length ≤ cur.length) (h1 : ∀ v ∈ cs, v.oneCell' = true) (B : Nat) (w0 : World) (hb : Below B w0 w) (hBg : B ≤ g)
    (h : ∀ w', Hid (w'.heap[g]? = some (.cells (splice cur off cs).toArray t (0, 0))) → Below B w0 w' → wpList P ops Q rest (a.put o.dst (goInt (Nat.min sLen dLen))) w') :
    wpList P ops Q (o :: rest) a w := by
  refine wpList_plain hgd fun K hK => ?_
  by_cases h0 : cs.length = 0
  · have hm : Nat.min sLen dLen = 0 := by
      rcases Nat.eq_zero_or_pos (Nat.min sLen dLen) with e | e
      · exact e
      · have := Nat.mul_pos e hz; omega
    obtain rfl : cs = [] := List.eq_nil_of_length_eq_zero h0
    have hrun := run_copy_zeroN (P := P) w dT sT o.type elem dp sp dLen dCap sLen sCap sz hu hsz hm
    rw [hm] at h
    unfold Oper.wp
    simp [execOp, ho, resolve, invoke, builtin, hd, hs, hrun, Result.andThen]
    exact hK _ _ (h w (show _ = _ by simpa [splice] using hg) hb)
  · obtain ⟨rfl, ad, rfl, hsrc⟩ := hpos (by omega)
    have hrun := run_copy_rowN (P := P) w dT sT o.type elem g off dLen dCap ad sLen sCap cur.toArray t cs sz hu hsz hg hn hsrc (by simpa using hfit) h1
    unfold Oper.wp
    simp [execOp, ho, resolve, invoke, builtin, hd, hs, hrun, Result.andThen]
    exact hK _ _ (h _ (show _ = _ by simpa [splice] using setRow_heap w g _ _ t _ hg) (below_setRow hb hBg _))
/-- The run of a copy, as an equation that a walk takes by itself. -/
theorem copy_eqN (w : World) (dT sT ty elem : TypeId) (sz : Nat) (hz : 0 < sz) (hu : P.underlying dT = some (.slice elem)) (hsz : (P.info? elem).map (·.size) = some sz)
    (dp sp : Option Addr) (dLen dCap sLen sCap : Nat)
    (g off : Nat) (cur : List Value) (t : TypeId) (hg : w.heap[g]? = some (.cells cur.toArray t (0, 0))) (cs : List Value) (hn : cs.length = Nat.min sLen dLen * sz)
    (hpos : 0 < cs.length → dp = some ⟨g, off, none⟩ ∧ ∃ ad, sp = some ad ∧ ∀ j v, cs[j]? = some v → w.cell? (ad.add j) = some v)
    (hfit : off + cs.length ≤ cur.length) (h1 : ∀ v ∈ cs, v.oneCell' = true) (B : Nat) (w0 : World) (hb : Below B w0 w) (hBg : B ≤ g) :
    ∃ w', (Builtin.copy_ #[dT, sT] ty #[.slice dp dLen dCap, .slice sp sLen sCap]).run P w = .ok (goInt (Nat.min sLen dLen)) w' ∧ w'.heap[g]? = some (.cells (splice cur off cs).toArray t (0, 0)) ∧ Below B w0 w' := by
  by_cases h0 : cs.length = 0
  · have hm : Nat.min sLen dLen = 0 := by
      rcases Nat.eq_zero_or_pos (Nat.min sLen dLen) with e | e
      · exact e
      · have := Nat.mul_pos e hz; omega
    obtain rfl : cs = [] := List.eq_nil_of_length_eq_zero h0
    have hrun := run_copy_zeroN (P := P) w dT sT ty elem dp sp dLen dCap sLen sCap sz hu hsz hm
    rw [hm]
    exact ⟨w, hrun, by simpa [splice] using hg, hb⟩
  · obtain ⟨rfl, ad, rfl, hsrc⟩ := hpos (by omega)
    have hrun := run_copy_rowN (P := P) w dT sT ty elem g off dLen dCap ad sLen sCap cur.toArray t cs sz hu hsz hg hn hsrc (by simpa using hfit) h1
    exact ⟨_, hrun, by simpa [splice] using setRow_heap w g _ _ t _ hg, below_setRow hb hBg _⟩
end
end Go.Proofs.YtpjglenogifclaaGreatDoor
namespace Go.Proofs.YtpjglenogifclaaGreatDoor
set_option linter.all false
open Go.RowKit

theorem elem_part : Tryz.prog.underlying 22 = some (.slice (Tryz.prog.elem 22)) := by kernel_rfl
theorem size_part_run (w : World) : (sizeOf (Tryz.prog.elem 22)).run Tryz.prog w = .ok 3 w := by
  have h : (Tryz.prog.info? (Tryz.prog.elem 22)).map (·.size) = some 3 := by kernel_rfl
  cases hq : Tryz.prog.info? (Tryz.prog.elem 22) with
  | none => rw [hq] at h; cases h
  | some i =>
    rw [hq] at h
    simp only [Option.map_some, Option.some.injEq] at h
    simp [sizeOf, typeInfo, hq, h]
theorem slice_fromP (g off n c lo : Nat) (hlo : lo ≤ n) : ∃ p : Option Addr, (∀ w, (Instr.slice 22 (.slice (some ⟨g, off, none⟩) n c) (some (.int .i64 (lo : Int))) none none).run Tryz.prog w = .ok (.slice p (n - lo) (c - lo)) w) ∧ (lo < c → p = some ⟨g, off + lo * 3, none⟩) := by
  refine ⟨if c = lo then some ⟨g, off, none⟩ else some ⟨g, off + lo * 3, none⟩, fun w => ?_, fun h => if_neg (by omega)⟩
  rw [run_slice_l w _ _ _ _ elem_part .i64 (lo : Int) (by omega) (by omega), size_part_run]
  simp only [Result.andThen, sliced, Int.toNat_natCast]
  by_cases h : c = lo
  · rw [if_pos h, if_pos h]
  · rw [if_neg h, if_neg h]; simp [Addr.add]
end Go.Proofs.YtpjglenogifclaaGreatDoor
namespace Go.Proofs.YtpjglenogifclaaGreatDoor
set_option linter.all false
attribute [local irreducible] wpStill
open Go.RowKit

/-- What stands behind so many statements. -/
def sndN : Nat → Code → Code
  | 0, c => c
  | n + 1, .seq _ b => sndN n b
  | _, c => c
/-- The first of two statements. -/
def fstC : Code → Code
  | .seq a _ => a
  | c => c
theorem Tinfo_part : (Tryz.prog.info? 28).map (fun i => (i.zero, i.size, i.bytes)) = some (some (.agg #[.int .u8 0, .int .i64 0, .string ByteArray.empty]), 3, 32) := by kernel_rfl
theorem Tsize_part : (Tryz.prog.info? 28).map (·.size) = some 3 := by kernel_rfl
/-- The cells of a new row of parts. -/
def zeroP (n : Nat) : Array Value := madeCells #[.int .u8 0, .int .i64 0, .string ByteArray.empty] (n * 3)
theorem zeroP_size (n : Nat) : (zeroP n).size = n * 3 := size_madeCells _ _
/-- A row of n parts, made. -/
theorem Tmake_parts (n : Nat) (hn : n ≤ 1000000000) (w : World) :
    (Instr.makeSlice 22 (.int .i64 (n : Int)) (.int .i64 (n : Int))).run Tryz.prog w = .ok (.slice (some ⟨w.heap.size, 0, none⟩) n n) (w.alloc (.cells (zeroP n) 28)) := by
  obtain ⟨i, hi, hz, hsz, hb⟩ := info_parts Tinfo_part
  have hr := run_make (P := Tryz.prog) w 22 28 i _ Tryz.underlying22 hi hz .i64 .i64 (n : Int) (n : Int) (by omega) (Int.le_refl _) (by rw [hb]; omega) (by omega)
  rw [hsz] at hr
  rw [hr]
  simp only [Int.toNat_natCast]
  rfl
theorem partsV_append (a b : List Prt) : partsV (a ++ b) = partsV a ++ partsV b := by unfold partsV; rw [List.flatMap_append]
theorem partsV_one (l : List Prt) : ∀ u ∈ partsV l, u.oneCell' = true := by
  intro u hu
  unfold partsV at hu
  rw [List.mem_flatMap] at hu
  obtain ⟨p, _, hp⟩ := hu
  unfold partV at hp
  simp at hp
  rcases hp with rfl | rfl | rfl <;> rfl
/-- The cells of a piece of a row of parts. -/
theorem PartRow.piece {w : World} {b off n cap : Nat} {l : List Prt} (h : PartRow w (.slice (some ⟨b, off, Option.none⟩) n cap) l) (i e : Nat) (hi : i ≤ e) (he : e ≤ l.length) (j : Nat) (v : Value) (hv : (partsV ((l.drop i).take (e - i)))[j]? = some v) : w.cell? (Addr.add ⟨b, off + i * 3, Option.none⟩ j) = some v := by
  obtain ⟨h1, a', cap', hv', hc, _, h2⟩ := h
  simp only [Value.slice.injEq] at hv'
  obtain ⟨rfl, rfl, rfl⟩ := hv'
  have hj := (List.getElem?_eq_some_iff.1 hv).1
  rw [partsV_length, List.length_take, List.length_drop] at hj
  obtain ⟨b', off', ha, _, hcell⟩ := h2 (by omega)
  simp only [Option.some.injEq, Addr.mk.injEq, and_true] at ha
  obtain ⟨rfl, rfl⟩ := ha
  have e0 : ∀ o j, (⟨b, o, Option.none⟩ : Addr).add j = ⟨b, o + j, Option.none⟩ := by intro o j; simp [Addr.add]
  have e1 : (Addr.add ⟨b, off + i * 3, Option.none⟩ j : Addr) = ⟨b, off + (i * 3 + j), Option.none⟩ := by rw [e0, Nat.add_assoc]
  rw [e1, hcell _ (by omega), ← hv]
  have hsp : l = l.take i ++ ((l.drop i).take (e - i) ++ (l.drop i).drop (e - i)) := by rw [List.take_append_drop, List.take_append_drop]
  have hA : (partsV (l.take i)).length = i * 3 := by rw [partsV_length, List.length_take, Nat.min_eq_left (by omega)]
  conv => lhs; rw [hsp, partsV_append, partsV_append]
  rw [List.getElem?_append_right (by omega), hA, show i * 3 + j - i * 3 = j by omega, List.getElem?_append_left (by rw [partsV_length, List.length_take, List.length_drop]; omega)]
theorem addK_cells : ∀ (l : List Prt) (u : Nat) (d : Int) (hu : u < l.length), (partsV l).set (u * 3 + 1) (.int .i64 ((l[u]).2.1 + d)) = partsV (addK l u d)
  | p :: r, 0, d, _ => rfl
  | p :: r, u + 1, d, hu => by
    have ih := addK_cells r u d (by simpa using hu)
    have e : partsV (p :: r) = partV p ++ partsV r := rfl
    rw [addK, e, show partsV (p :: addK r u d) = partV p ++ partsV (addK r u d) from rfl, ← ih, List.set_append_right _ _ (by simp [partV]; omega)]
    congr 2
    simp [partV]; omega
/-- A row of parts in a block of the call's own. -/
theorem owns_parts {W : World} {B g : Nat} {m : List Prt} (h : W.heap[g]? = some (.cells (partsV m).toArray 28 (0, 0))) (hB : B ≤ g) (hm : m.length ≤ 100000000) : W.ownsRow B 28 3 (.slice (some ⟨g, 0, none⟩) m.length m.length) m.length (partsV m) :=
  ⟨partsV_length m, Or.inr ⟨g, m.length, (partsV m).toArray, rfl, hB, h, Nat.le_refl _, by unfold maxLen; omega, by simp [partsV_length], by simp [partsV_length, List.take_of_length_le]⟩⟩
/-- The new list. -/
def swOut (l b : List Prt) (I tq : Nat) (up d : Int) : List Prt := (if 0 ≤ up then addK (l.take I) up.toNat d else l.take I) ++ (b ++ l.drop tq)
noncomputable def swTail : Code := fstC (sndN 8 (Tryz.f22.body.getD .skip))
noncomputable def swRest : Code := sndN 9 (Tryz.f22.body.getD .skip)
set_option maxRecDepth 100000 in
set_option maxHeartbeats 16000000 in
theorem swap_tail (u4 u5 u6 u7 u8 u9 u10 u11 u12 u14 u16 u18 u19 u20 u21 u22 u23 u24 u25 u26 u27 u28 u29 u30 u31 u32 u33 u34 u35 u36 u37 u38 u39 u40 u41 u42 u43 u44 u45 u46 u47 u48 u49 u50 u51 u52 u53 u54 u55 u56 u57 u58 u59 u60 u61 u62 u63 u64 u65 u66 u67 u68 u69 u70 u71 u72 u73 u74 u75 u76 u77 u78 u79 u80 u81 u82 u83 u84 u85 u86 u87 u88 u89 u90 u91 u92 u93 u94 u95 u96 u97 u98 u99 u100 u101 u102 u103 u104 u105 u106 u107 u108 u109 u110 u111 u112 u113 u114 u115 u116 u117 u118 u119 u120 u121 u122 u123 u124 u125 u126 u127 u128 u129 u130 u131 u132 : Value) (l : List Prt) (hl : l.length ≤ 10000000) (hl0 : 0 < l.length) (b : List Prt) (hbl : b.length ≤ 10000000) (I tq m ks : Nat) (up : Int) (hIt : I ≤ tq ∧ tq ≤ l.length ∧ m ≤ l.length) (hks : ks ≤ 10000000)
    (hup : RowKit.Hid (up = -1 ∨ ∃ U : Nat, up = U ∧ U < I ∧ ∀ h : U < l.length, 0 ≤ (l[U]).2.1 ∧ (l[U]).2.1 ≤ 10000000)) (lb loff vcap : Nat) (hvc : l.length ≤ vcap) (ba : Option Addr) (bcap : Nat) (hbc : b.length ≤ bcap) (w1 wr : World)
    (HR1 : RowKit.Hid (PartRow w1 (.slice (some ⟨lb, loff, none⟩) l.length vcap) l)) (HRB1 : RowKit.Hid (PartRow w1 (.slice ba b.length bcap) b)) (HB12 : RowKit.Hid (Below w1.heap.size w1 wr)) (Q : Ending → World → Prop)
    (HQ : RowKit.Hid (∀ v' w', Below w1.heap.size w1 w' → w'.ownsRow w1.heap.size 28 3 v' (swOut l b I tq up ((ks : Int) - m)).length (partsV (swOut l b I tq up ((ks : Int) - m))) → Q (.returned (.tuple #[v', .int .i64 0])) w'))
    (K : Act → World → Prop) (hK : ∀ a' w', Code.wp Tryz.prog swRest (bodyPost Tryz.prog Tryz.f22 Q) a' w' → K a' w') :
    Code.wp Tryz.prog swTail (Exit.then K (bodyPost Tryz.prog Tryz.f22 Q)) ⟨#[.slice (some ⟨lb, loff, none⟩) l.length vcap, .int .i64 (I : Int), .int .i64 (m : Int), .slice ba b.length bcap, u4, u5, u6, u7, u8, u9, u10, u11, u12, .int .i64 (ks : Int), u14, .int .i64 (tq : Int), u16, .int .i64 up, u18, u19, u20, u21, u22, u23, u24, u25, u26, u27, u28, u29, u30, u31, u32, u33, u34, u35, u36, u37, u38, u39, u40, u41, u42, u43, u44, u45, u46, u47, u48, u49, u50, u51, u52, u53, u54, u55, u56, u57, u58, u59, u60, u61, u62, u63, u64, u65, u66, u67, u68, u69, u70, u71, u72, u73, u74, u75, u76, u77, u78, u79, u80, u81, u82, u83, u84, u85, u86, u87, u88, u89, u90, u91, u92, u93, u94, u95, u96, u97, u98, u99, u100, u101, u102, u103, u104, u105, u106, u107, u108, u109, u110, u111, u112, u113, u114, u115, u116, u117, u118, u119, u120, u121, u122, u123, u124, u125, u126, u127, u128, u129, u130, u131, u132], []⟩ wr := by
  unfold swTail
  unfold swRest at hK
  conv => arg 2; whnf
  conv at hK => enter [a', w', 1]; arg 2; whnf
  obtain ⟨N, hN⟩ : ∃ N : Nat, N = l.length - (tq - I) + b.length := ⟨_, rfl⟩
  have hNi : (l.length : Int) - ((tq : Int) - (I : Int)) + (b.length : Int) = (N : Int) := by omega
  have hw1 : IntKind.i64.wrap ((tq : Int) - (I : Int)) = (tq : Int) - (I : Int) := by rw [IntKind.wrap_i64]; omega
  have hw2 : IntKind.i64.wrap ((l.length : Int) - ((tq : Int) - (I : Int))) = (l.length : Int) - ((tq : Int) - (I : Int)) := by rw [IntKind.wrap_i64]; omega
  have hw3 : IntKind.i64.wrap ((l.length : Int) - ((tq : Int) - (I : Int)) + (b.length : Int)) = (N : Int) := by rw [hNi, IntKind.wrap_i64]; omega
  have hmk := Tmake_parts N (by omega)
  have HN := Lib.hid hN
  have HIT := Lib.hid hIt
  clear hN hNi
  go_upto_region 19 with (fail)
  have hg0 : (wr.alloc (.cells (zeroP N) 28)).heap[wr.heap.size]? = some (.cells (zeroP N).toList.toArray 28 (0, 0)) := by rw [Array.toArray_toList]; exact heap_alloc_new _ _
  have hb0 : Below w1.heap.size w1 (wr.alloc (.cells (zeroP N) 28)) := HB12.out.alloc HB12.out.size _
  have hgb : w1.heap.size ≤ wr.heap.size := HB12.out.size
  have hzl : (zeroP N).toList.length = N * 3 := by rw [Array.length_toList, zeroP_size]
  have HG0 := Lib.hid hg0
  have HB0 := Lib.hid hb0
  have HZL := Lib.hid hzl
  clear hg0 hb0 hzl hmk
  generalize (zeroP N).toList = Z at *
  generalize wr.alloc (.cells (zeroP N) 28) = W0 at *
  have HGB := Lib.hid hgb
  clear hgb
  generalize wr.heap.size = g at *
  have hIll : I ≤ l.length := by omega
  have hIi0 : (0 : Int) ≤ (I : Int) := by omega
  have hIic : (I : Int) ≤ vcap := by omega
  have HCA : RowKit.Hid (∀ W', Below w1.heap.size w1 W' → ∀ j v, (partsV (l.take I))[j]? = some v → W'.cell? (Addr.add ⟨lb, loff, none⟩ j) = some v) := Lib.hid fun W' hb j v hj => by
    have := (HR1.out.below hb).piece 0 I (Nat.zero_le _) hIll j v (by rw [List.drop_zero, Nat.sub_zero]; exact hj)
    rw [Nat.zero_mul, Nat.add_zero] at this; exact this
  have HLA : RowKit.Hid ((partsV (l.take I)).length = I * 3) := Lib.hid (by rw [partsV_length, List.length_take, Nat.min_eq_left hIll])
  have hINn : I ≤ N := by have := HN.out; have := HIT.out; omega
  obtain ⟨p1, hp1, hp1'⟩ := slice_fromP g 0 N N I hINn
  obtain ⟨p2, hp2, hp2'⟩ := slice_fromP g 0 N N (I + b.length) (by have := HN.out; have := HIT.out; omega)
  obtain ⟨p3, hp3, hp3'⟩ := slice_fromP lb loff l.length vcap tq (by have := HIT.out; omega)
  rw [show ((I + b.length : Nat) : Int) = (I : Int) + (b.length : Int) by omega] at hp2
  have HP1 := Lib.hid hp1'
  have HP2 := Lib.hid hp2'
  have HP3 := Lib.hid hp3'
  clear hp1' hp2' hp3' hINn
  have HNN : RowKit.Hid (N = l.length - (tq - I) + b.length) := HN
  have HLB : RowKit.Hid ((partsV b).length = b.length * 3) := Lib.hid (partsV_length b)
  have HNI : RowKit.Hid (I + b.length ≤ N ∧ N - I - b.length = l.length - tq) := Lib.hid (by have := HNN.out; have := HIT.out; omega)
  have HLC : RowKit.Hid ((partsV (l.drop tq)).length = (l.length - tq) * 3) := Lib.hid (by rw [partsV_length, List.length_drop])
  have HCB : RowKit.Hid (∀ W', Below w1.heap.size w1 W' → 0 < (partsV b).length → ∃ ad, ba = some ad ∧ ∀ j v, (partsV b)[j]? = some v → W'.cell? (ad.add j) = some v) := Lib.hid fun W' hb hp => by
    have hb0 : 0 < b.length := by rw [partsV_length] at hp; omega
    obtain ⟨bb, boff, e1, _⟩ := HRB1.out.at (Below.refl _ _) hb0
    refine ⟨⟨bb, boff, none⟩, e1, fun j v hj => ?_⟩
    have h2 := HRB1.out.below hb
    rw [e1] at h2
    have := h2.piece 0 b.length (Nat.zero_le _) (Nat.le_refl _) j v (by rw [List.drop_zero, Nat.sub_zero, List.take_length]; exact hj)
    rw [Nat.zero_mul, Nat.add_zero] at this; exact this
  have HCC : RowKit.Hid (∀ W', Below w1.heap.size w1 W' → ∀ j v, (partsV (l.drop tq))[j]? = some v → W'.cell? (Addr.add ⟨lb, loff + tq * 3, none⟩ j) = some v) := Lib.hid fun W' hb j v hj =>
    (HR1.out.below hb).piece tq l.length (by have := HIT.out; omega) (Nat.le_refl _) j v (by rw [List.take_of_length_le (by rw [List.length_drop]; exact Nat.le_refl _)]; exact hj)
  obtain ⟨w3, hrun1, hg3, hb3⟩ := copy_eqN (P := Tryz.prog) W0 22 22 3 28 3 (by decide) Tryz.underlying22 Tsize_part (some ⟨g, 0, none⟩) (some ⟨lb, loff, none⟩) N N I vcap g 0 Z 28 HG0.out (partsV (l.take I)) (by rw [HLA.out]; show I * 3 = min I N * 3; rw [Nat.min_eq_left (by have := HNN.out; have := HIT.out; omega)]) (fun _ => ⟨rfl, _, rfl, HCA.out _ HB0.out⟩) (by rw [HLA.out, HZL.out]; have := HNN.out; have := HIT.out; omega) (partsV_one _) w1.heap.size w1 HB0.out HGB.out
  have HZ1 : RowKit.Hid ((splice Z 0 (partsV (l.take I))).length = N * 3) := Lib.hid (by rw [length_splice _ _ _ (by rw [HLA.out, HZL.out]; have := HNN.out; have := HIT.out; omega)]; exact HZL.out)
  obtain ⟨w4, hrun2, hg4, hb4⟩ := copy_eqN (P := Tryz.prog) w3 22 22 3 28 3 (by decide) Tryz.underlying22 Tsize_part p1 ba (N - I) (N - I) b.length bcap g (I * 3) (splice Z 0 (partsV (l.take I))) 28 hg3 (partsV b) (by rw [HLB.out]; show b.length * 3 = min b.length (N - I) * 3; rw [Nat.min_eq_left (by have := HNI.out; omega)]) (fun hp => ⟨by rw [HP1.out (by rw [HLB.out] at hp; have := HNI.out; omega), Nat.zero_add], HCB.out _ hb3 hp⟩) (by rw [HLB.out, HZ1.out]; have := HNI.out; omega) (partsV_one _) w1.heap.size w1 hb3 HGB.out
  have HZ2 : RowKit.Hid ((splice (splice Z 0 (partsV (l.take I))) (I * 3) (partsV b)).length = N * 3) := Lib.hid (by rw [length_splice _ _ _ (by rw [HLB.out, HZ1.out]; have := HNI.out; omega)]; exact HZ1.out)
  obtain ⟨w5, hrun3, hg5, hb5⟩ := copy_eqN (P := Tryz.prog) w4.drew 22 22 3 28 3 (by decide) Tryz.underlying22 Tsize_part p2 p3 (N - (I + b.length)) (N - (I + b.length)) (l.length - tq) (vcap - tq) g ((I + b.length) * 3) (splice (splice Z 0 (partsV (l.take I))) (I * 3) (partsV b)) 28 hg4 (partsV (l.drop tq)) (by rw [HLC.out]; show (l.length - tq) * 3 = min (l.length - tq) (N - (I + b.length)) * 3; rw [Nat.min_eq_left (by have := HNI.out; omega)]) (fun hp => ⟨by rw [HP2.out (by rw [HLC.out] at hp; have := HNI.out; omega), Nat.zero_add], ⟨_, HP3.out (by rw [HLC.out] at hp; omega), HCC.out _ hb4.drew⟩⟩) (by rw [HLC.out, HZ2.out]; have := HNI.out; omega) (partsV_one _) w1.heap.size w1 hb4.drew HGB.out
  have hsp : splice (splice (splice Z 0 (partsV (l.take I))) (I * 3) (partsV b)) ((I + b.length) * 3) (partsV (l.drop tq)) = partsV (l.take I ++ (b ++ l.drop tq)) := by
    have := splice3 Z (partsV (l.take I)) (partsV b) (partsV (l.drop tq)) (by rw [HZL.out, HLA.out, HLB.out, HLC.out]; have := HNI.out; omega)
    rw [HLA.out, HLB.out, show I * 3 + b.length * 3 = (I + b.length) * 3 by omega] at this
    rw [this, partsV_append, partsV_append]
  rw [hsp] at hg5
  have HG5 := Lib.hid hg5
  have HB5 := Lib.hid hb5
  clear hg3 hg4 hg5 hb3 hb4 hb5 hsp HCA HCB HCC HZ1 HZ2 HZL HG0 HB0 HLB HLC HLA
  have hIN : (I : Int) ≤ N := by have := HNN.out; have := HIT.out; omega
  have hwib : IntKind.i64.wrap ((I : Int) + (b.length : Int)) = (I : Int) + (b.length : Int) := by rw [IntKind.wrap_i64]; omega
  have hib0 : (0 : Int) ≤ (I : Int) + (b.length : Int) := by omega
  have hibN : (I : Int) + (b.length : Int) ≤ N := by have := HNI.out; omega
  have hibt : ((I : Int) + (b.length : Int)).toNat = I + b.length := by omega
  have hto0 : (0 : Int) ≤ (tq : Int) := by omega
  have htol : (tq : Int) ≤ l.length := by have := HIT.out; omega
  have htoc : (tq : Int) ≤ vcap := by have := HIT.out; omega
  go_upto_region 21 with (fail)
  go_still_tail 9, (by kernel_rfl)
  have hM : (l.take I ++ (b ++ l.drop tq)).length = N := by rw [List.length_append, List.length_append, List.length_take, List.length_drop, Nat.min_eq_left hIll]; have := HNN.out; have := HIT.out; omega
  have HM := Lib.hid hM
  clear hM
  go_upto_region 22 with (fail)
  have hNb : N ≤ 100000000 := by have := HNI.out; have := HIT.out; omega
  rcases hup.out with rfl | ⟨U, rfl, hUI, hk⟩
  · have hq := HQ.out (.slice (some ⟨g, 0, none⟩) N N) w5 HB5.out
    unfold swOut at hq
    rw [if_neg (by omega), HM.out, ← HM.out] at hq
    have HQ1 := Lib.hid (hq (owns_parts HG5.out HGB.out (by rw [HM.out]; exact hNb)))
    clear hq
    rw [HM.out] at HQ1
    go_wp2_with fail
    exact HQ1.out
  · have hUl : U < l.length := by have := HIT.out; omega
    obtain ⟨k0, k1⟩ := hk hUl
    have hUM : U < (l.take I ++ (b ++ l.drop tq)).length := by rw [HM.out]; omega
    have hgU : (l.take I ++ (b ++ l.drop tq))[U] = l[U] := by
      rw [List.getElem_append_left (by rw [List.length_take]; omega), List.getElem_take]
    have c1 : w5.cell? ⟨g, U * 3 + 1, none⟩ = some (.int .i64 (l[U]).2.1) := by
      have := (partsV_at _ U hUM).2.1
      rw [hgU] at this
      simp only [World.cell?, HG5.out]
      simpa using this
    have z1 : w5.frozen? ⟨g, U * 3 + 1, none⟩ = false := by simp [World.frozen?, HG5.out]
    have hst : ∀ x : Int, x = (l[U]).2.1 + ((ks : Int) - m) → (w5.setCell ⟨g, U * 3 + 1, none⟩ (.int .i64 x)).heap[g]? = some (.cells (partsV (swOut l b I tq (U : Int) ((ks : Int) - m))).toArray 28 (0, 0)) := fun x hx => by
      rw [heap_setCell_same _ _ _ _ _ _ HG5.out, List.setIfInBounds_toArray, hx, ← hgU, addK_cells _ _ _ hUM]
      unfold swOut
      rw [if_pos (by omega), Int.toNat_natCast, addK_append _ _ _ _ (by rw [List.length_take]; omega)]
    have hln : (swOut l b I tq (U : Int) ((ks : Int) - m)).length = N := by
      unfold swOut
      rw [if_pos (by omega), ← HM.out]; simp only [List.length_append, addK_length]
    have hq := HQ.out (.slice (some ⟨g, 0, none⟩) N N) (w5.setCell ⟨g, U * 3 + 1, none⟩ (.int .i64 ((l[U]).2.1 + ((ks : Int) - m)))) (HB5.out.setCell (p := ⟨g, U * 3 + 1, none⟩) HGB.out _)
    have ho := owns_parts (hst _ rfl) HGB.out (by rw [hln]; exact hNb)
    rw [hln] at hq ho
    have HQ1 := Lib.hid (hq ho)
    clear hq ho hst hk hgU hUM hln
    have hU0 : (0 : Int) ≤ (U : Int) := by omega
    have hUN : (U : Int) < N := by have := HNN.out; have := HIT.out; omega
    have hw5 : IntKind.i64.wrap ((ks : Int) - (m : Int)) = (ks : Int) - (m : Int) := by rw [IntKind.wrap_i64]; have := HIT.out; omega
    have hml : m ≤ 10000000 := by have := HIT.out; omega
    clear hw1 hw2 hw3 hrun1 hrun2 hrun3 hp1 hp2 hp3 hwib hibt
    generalize (l[U]).2.1 = x at *
    have hw6 : IntKind.i64.wrap (x + ((ks : Int) - (m : Int))) = x + ((ks : Int) - (m : Int)) := by rw [IntKind.wrap_i64]; omega
    go_wp2_with fail
    exact HQ1.out
end Go.Proofs.YtpjglenogifclaaGreatDoor
namespace Go.Proofs.YtpjglenogifclaaGreatDoor
set_option linter.all false
open Go.RowKit

/-- What holds at the loop's head. -/
def swRel (l : List Prt) (stop M : Nat) (R : Option Nat) (w2 : World) (tq c : Value) (wr : World) : Prop :=
  ∃ k t : Nat, c = .int .i64 (k : Int) ∧ tq = .int .i64 (t : Int) ∧ k ≤ M ∧ t ≤ l.length ∧ toZ l stop (M - k) t = R ∧ wr = w2
noncomputable def swLoop : Code := sndN 1 (fstC (sndN 7 (Tryz.f22.body.getD .skip)))
noncomputable def swBack : Code := sndN 8 (Tryz.f22.body.getD .skip)
set_option maxRecDepth 100000 in
set_option maxHeartbeats 16000000 in
theorem swap_loop (u4 u5 u6 u7 u8 u9 u11 u12 u14 u18 u19 u20 u21 u22 u23 u24 u25 u26 u27 u28 u29 u30 u31 u32 u33 u34 u35 u36 u37 u38 u39 u40 u41 u42 u43 u44 u45 u46 u47 u48 u49 u50 u51 u52 u53 u54 u55 u56 u57 u58 u59 u60 u61 u62 u63 u64 u65 u66 u67 u68 u69 u70 u71 u72 u73 u74 u75 u76 u77 u80 u81 u82 u83 u84 u85 u86 u87 u88 u89 u90 u91 u92 u93 u94 u95 u96 u97 u98 u99 u100 u101 u102 u103 u104 u105 u106 u107 u108 u109 u110 u111 u112 u113 u114 u115 u116 u117 u118 u119 u120 u121 u122 u123 u124 u125 u126 u127 u128 u129 u130 u131 u132 : Value) (l : List Prt) (hl : l.length ≤ 10000000) (hl0 : 0 < l.length) (hw : RowKit.Hid (wellB l = true)) (b : List Prt) (hbl : b.length ≤ 10000000) (I m ks M stop : Nat) (up : Int) (hIl : I < l.length) (hM : M ≤ l.length + 1) (hks : ks ≤ 10000000) (hstop : stop ≤ l.length)
    (hup : RowKit.Hid (up = -1 ∨ ∃ U : Nat, up = U ∧ U < I ∧ ∀ h : U < l.length, 0 ≤ (l[U]).2.1 ∧ (l[U]).2.1 ≤ 10000000)) (lb loff vcap : Nat) (hvc : l.length ≤ vcap) (ba : Option Addr) (bcap : Nat) (hbc : b.length ≤ bcap) (eb eoff c1 : Nat) (hec : l.length ≤ c1) (w1 w2 : World)
    (HR1 : RowKit.Hid (PartRow w1 (.slice (some ⟨lb, loff, none⟩) l.length vcap) l)) (HRB1 : RowKit.Hid (PartRow w1 (.slice ba b.length bcap) b)) (HB12 : RowKit.Hid (Below w1.heap.size w1 w2)) (Q : Ending → World → Prop)
    (HEC : RowKit.Hid (∀ W', Below w1.heap.size w1 W' → ∀ k, k < l.length → W'.cell? ⟨eb, eoff + k, none⟩ = some (.int .i64 (endB l k : Int)))) (R : Option Nat) (HR : RowKit.Hid (toZ l stop M I = R))
    (HNone : RowKit.Hid (R = none → Q (.returned (.tuple #[.slice none 0 0, .int .i64 1])) w2))
    (HSome : RowKit.Hid (∀ tq, R = some tq → I ≤ tq ∧ tq ≤ l.length ∧ m ≤ l.length ∧ ∀ v' w', Below w1.heap.size w1 w' → w'.ownsRow w1.heap.size 28 3 v' (swOut l b I tq up ((ks : Int) - m)).length (partsV (swOut l b I tq up ((ks : Int) - m))) → Q (.returned (.tuple #[v', .int .i64 0])) w'))
    (K : Act → World → Prop) (hK : ∀ a' w', Code.wp Tryz.prog swBack (bodyPost Tryz.prog Tryz.f22 Q) a' w' → K a' w') :
    Code.wp Tryz.prog swLoop (Exit.then K (bodyPost Tryz.prog Tryz.f22 Q)) ⟨#[.slice (some ⟨lb, loff, none⟩) l.length vcap, .int .i64 (I : Int), .int .i64 (m : Int), .slice ba b.length bcap, u4, u5, u6, u7, u8, u9, .slice (some ⟨eb, eoff, none⟩) l.length c1, u11, u12, .int .i64 (ks : Int), u14, .int .i64 (I : Int), .int .i64 (stop : Int), .int .i64 up, u18, u19, u20, u21, u22, u23, u24, u25, u26, u27, u28, u29, u30, u31, u32, u33, u34, u35, u36, u37, u38, u39, u40, u41, u42, u43, u44, u45, u46, u47, u48, u49, u50, u51, u52, u53, u54, u55, u56, u57, u58, u59, u60, u61, u62, u63, u64, u65, u66, u67, u68, u69, u70, u71, u72, u73, u74, u75, u76, u77, .int .i64 (M : Int), .int .i64 0, u80, u81, u82, u83, u84, u85, u86, u87, u88, u89, u90, u91, u92, u93, u94, u95, u96, u97, u98, u99, u100, u101, u102, u103, u104, u105, u106, u107, u108, u109, u110, u111, u112, u113, u114, u115, u116, u117, u118, u119, u120, u121, u122, u123, u124, u125, u126, u127, u128, u129, u130, u131, u132], []⟩ w2 := by
  unfold swLoop
  unfold swBack at hK
  conv => arg 2; whnf
  conv at hK => enter [a', w', 1]; arg 2; whnf
  go_wp2_with fail
  go_loopw [15, 79] (fun tq c wr => swRel l stop M R w2 tq c wr) (fun _ c _ => M - (intOf c).toNat)
  case atStart => exact ⟨0, I, rfl, rfl, Nat.zero_le _, by omega, by rw [Nat.sub_zero]; exact HR.out, rfl⟩
  case round =>
    obtain ⟨k, tq, rfl, rfl, hk, hto, hT, rfl⟩ := hrel
    have HT := Lib.hid hT
    clear hT
    by_cases hkM : k < M
    · have hkM' : (k : Int) < M := by omega
      have hstep := HT.out
      rw [show M - k = (M - (k + 1)) + 1 by omega, toZ] at hstep
      by_cases hst : stop ≤ tq
      · rw [if_pos hst] at hstep
        have hst' : (stop : Int) ≤ tq := by omega
        have HF := Lib.hid (HNone.out hstep.symm)
        clear hstep
        go_wp2_with fail
        exact HF.out
      · rw [if_neg hst] at hstep
        have hst' : ¬ (stop : Int) ≤ tq := by omega
        have htl : tq < l.length := by omega
        have d0 := HEC.out _ HB12.out tq htl
        have hg := (endB_gt (well_rows hw.out) htl).2
        have hto0 : (0 : Int) ≤ tq := by omega
        have htol : (tq : Int) < l.length := by omega
        have htoc : (tq : Int) < c1 := by omega
        have hwk : IntKind.i64.wrap ((k : Int) + 1) = (k : Int) + 1 := by rw [IntKind.wrap_i64]; omega
        have HRL : RowKit.Hid (swRel l stop M R wr (.int .i64 (endB l tq : Int)) (.int .i64 ((k + 1 : Nat) : Int)) wr) := Lib.hid ⟨k + 1, endB l tq, rfl, rfl, hkM, hg, hstep, rfl⟩
        have HML : RowKit.Hid (M - (k + 1) < M - k) := Lib.hid (by omega)
        clear hstep hg
        generalize endB l tq = et at *
        go_wp2_with fail
        refine ⟨?_, (by have := HML.out; simp [intOf]; try omega)⟩
        first
          | exact HRL.out
          | (repeat apply Exists.intro
             refine ⟨?_, rfl⟩
             exact HRL.out)
    · have hkM' : ¬ (k : Int) < M := by omega
      have hfin := HT.out
      rw [show M - k = 0 by omega, toZ] at hfin
      obtain ⟨g1, g2, g3, g4⟩ := HSome.out tq hfin.symm
      have HIT := Lib.hid (And.intro g1 (And.intro g2 g3))
      have HQ := Lib.hid g4
      clear hfin g1 g2 g3 g4 hkM hk
      go_upto_region 18 with (fail)
      rename_i hK'
      exact swap_tail _ _ _ _ _ _ _ _ _ _ _ _ _ _ _ _ _ _ _ _ _ _ _ _ _ _ _ _ _ _ _ _ _ _ _ _ _ _ _ _ _ _ _ _ _ _ _ _ _ _ _ _ _ _ _ _ _ _ _ _ _ _ _ _ _ _ _ _ _ _ _ _ _ _ _ _ _ _ _ _ _ _ _ _ _ _ _ _ _ _ _ _ _ _ _ _ _ _ _ _ _ _ _ _ _ _ _ _ _ _ _ _ _ _ _ _ _ _ _ _ _ _ _ _ _ _ l hl hl0 b hbl I tq m ks up HIT.out hks hup lb loff vcap hvc ba bcap hbc w1 wr HR1 HRB1 HB12 Q HQ _ hK'
end Go.Proofs.YtpjglenogifclaaGreatDoor
