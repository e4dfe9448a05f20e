/- Layer 7: the program's functions, walked: next, One. -/
import Derived.Test.YtelfobnmiphdnaaGreatDoorScan4
namespace Go.Proofs.YtelfobnmiphdnaaGreatDoor
set_option linter.all false
open Go.RowKit

theorem results_cell_tmp {P : Program} {fn : Func} {p t1 : Tmp} {ty : TypeId} (h : fn.results = #[.cell p ty, .tmp t1]) (tmps : Array Value) (w : World) (g : Nat) (t : TypeId) (cs : Array Value) (fr : Nat × Nat) (d : TypeDesc)
    (hp : tmps.getD p undef = .pointer (some ⟨g, 0, none⟩)) (hg : w.heap[g]? = some (.cells cs t fr))
    (hu : P.underlying ty = some d) (hd : (match d with | .struct _ | .array _ _ => true | _ => false) = true) (hi : (P.info? ty).map (·.size) = some cs.size) :
    (results fn tmps).run P w = .ok (.tuple #[.agg cs, tmps.getD t1 undef]) w := by
  have hp' : tmps[p]?.getD undef = .pointer (some ⟨g, 0, none⟩) := by simpa using hp
  simp [results, h, hp', asAddr, run_loadVar_row w g t ty cs fr d hg hu hd hi]
theorem results_tmp_cell {P : Program} {fn : Func} {p t1 : Tmp} {ty : TypeId} (h : fn.results = #[.tmp t1, .cell p ty]) (tmps : Array Value) (w : World) (g : Nat) (t : TypeId) (cs : Array Value) (fr : Nat × Nat) (d : TypeDesc)
    (hp : tmps.getD p undef = .pointer (some ⟨g, 0, none⟩)) (hg : w.heap[g]? = some (.cells cs t fr))
    (hu : P.underlying ty = some d) (hd : (match d with | .struct _ | .array _ _ => true | _ => false) = true) (hi : (P.info? ty).map (·.size) = some cs.size) :
    (results fn tmps).run P w = .ok (.tuple #[tmps.getD t1 undef, .agg cs]) w := by
  have hp' : tmps[p]?.getD undef = .pointer (some ⟨g, 0, none⟩) := by simpa using hp
  simp [results, h, hp', asAddr, run_loadVar_row w g t ty cs fr d hg hu hd hi]
/-- A token's block, in a world. -/
def TK (W : World) (g : Nat) (k f t : Int) : Prop := W.heap[g]? = some (.cells #[.int .u8 k, .int .i64 f, .int .i64 t] 41 (0, 0))
theorem TK.c0 {W : World} {g : Nat} {k f t : Int} (h : TK W g k f t) : W.cell? ⟨g, 0, none⟩ = some (.int .u8 k) := by unfold TK at h; simp [World.cell?, h]
theorem TK.c1 {W : World} {g : Nat} {k f t : Int} (h : TK W g k f t) : W.cell? ⟨g, 1, none⟩ = some (.int .i64 f) := by unfold TK at h; simp [World.cell?, h]
theorem TK.c2 {W : World} {g : Nat} {k f t : Int} (h : TK W g k f t) : W.cell? ⟨g, 2, none⟩ = some (.int .i64 t) := by unfold TK at h; simp [World.cell?, h]
theorem TK.fz {W : World} {g : Nat} {k f t : Int} (h : TK W g k f t) (i : Nat) : W.frozen? ⟨g, i, none⟩ = false := by unfold TK at h; simp [World.frozen?, h]
theorem TK.keep {W W' : World} {g : Nat} {k f t : Int} (h : TK W g k f t) (hb : Below W.heap.size W W') : TK W' g k f t := keeps hb h
theorem TK.set0 {W : World} {g : Nat} {k f t : Int} (h : TK W g k f t) (k' : Int) : TK (W.setCell ⟨g, 0, none⟩ (.int .u8 k')) g k' f t := by
  unfold TK at h ⊢; rw [heap_setCell_same W g 0 _ _ _ h]; rfl
theorem TK.set1 {W : World} {g : Nat} {k f t : Int} (h : TK W g k f t) (f' : Int) : TK (W.setCell ⟨g, 1, none⟩ (.int .i64 f')) g k f' t := by
  unfold TK at h ⊢; rw [heap_setCell_same W g 1 _ _ _ h]; rfl
theorem TK.set2 {W : World} {g : Nat} {k f t : Int} (h : TK W g k f t) (t' : Int) : TK (W.setCell ⟨g, 2, none⟩ (.int .i64 t')) g k f t' := by
  unfold TK at h ⊢; rw [heap_setCell_same W g 2 _ _ _ h]; rfl
theorem TK.other {W : World} {g : Nat} {k f t : Int} (h : TK W g k f t) (p : Addr) (v : Value) (hp : g ≠ p.block) : TK (W.setCell p v) g k f t := by
  unfold TK at h ⊢; rw [heap_setCell_other _ _ _ _ hp]; exact h
/-- What is answered at a place: kind, beginning, end, error. -/
def nextZ (s : ByteArray) (a : Nat) : Int × Int × Int × Int := if (lex s a).1 = 0 then (0, 0, 0, 4) else ((lex s a).1, (a : Int), (lex s a).2, 0)
@[irreducible] def nextPost (q : Int × Int × Int × Int) (w0 : World) (e : Ending) (w' : World) : Prop :=
  e = .returned (.tuple #[.agg #[.int .u8 q.1, .int .i64 q.2.1, .int .i64 q.2.2.1], .int .i64 q.2.2.2]) ∧ Below w0.heap.size w0 w'
set_option maxRecDepth 100000 in
set_option maxHeartbeats 4000000 in
theorem scan_next' (s : ByteArray) (a : Nat) (ha : a < s.size) (hs : s.size ≤ 2147483647) (w : World) (hT : Tabs w) (hM : MaxC w) :
    Calls Tryz.prog 27 #[.string s, .int .i64 (a : Int)] w (nextPost (nextZ s a) w) := by
  have CK := Lib.hid (fun w' (hb : Below w.heap.size w w') => scan_kind s a ha hs w' (hT.below hb) (hM.below hb))
  have HQ : RowKit.Hid (∀ w' q, nextZ s a = q → Below w.heap.size w w' → nextPost (nextZ s a) w (.returned (.tuple #[.agg #[.int .u8 q.1, .int .i64 q.2.1, .int .i64 q.2.2.1], .int .i64 q.2.2.2])) w') := Lib.hid fun w' q h h2 => by
    unfold nextPost; rw [h]; exact ⟨rfl, h2⟩
  have HV : RowKit.Hid (nextZ s a = if (lex s a).1 = 0 then (0, 0, 0, 4) else ((lex s a).1, (a : Int), (lex s a).2, 0)) := Lib.hid (by unfold nextZ; rfl)
  generalize nextPost (nextZ s a) w = Q at *
  have hb0 : Below w.heap.size w (((w.alloc (.cells #[.int .u8 0, .int .i64 0, .int .i64 0] 41)))) := (Below.refl _ _).alloc (Nat.le_refl _) _
  go_enter Tryz.func27, Tryz.ntmps27
  go_wp2_with fail
  have hT4 : TK ((w.alloc (.cells #[.int .u8 0, .int .i64 0, .int .i64 0] 41)).alloc (.cells #[.int .u8 0, .int .i64 (a : Int), .int .i64 0] 41)) w.heap.size 0 0 0 := by
    unfold TK; rw [Below.heap_alloc _ _ _ (by simp)]; exact heap_alloc_new _ _
  have hT6 : TK ((w.alloc (.cells #[.int .u8 0, .int .i64 0, .int .i64 0] 41)).alloc (.cells #[.int .u8 0, .int .i64 (a : Int), .int .i64 0] 41)) (w.heap.size + 1) 0 a 0 := by
    unfold TK; have := heap_alloc_new (w.alloc (.cells #[.int .u8 0, .int .i64 0, .int .i64 0] 41)) (.cells #[.int .u8 0, .int .i64 (a : Int), .int .i64 0] 41); simpa using this
  have hbW : Below w.heap.size w ((w.alloc (.cells #[.int .u8 0, .int .i64 0, .int .i64 0] 41)).alloc (.cells #[.int .u8 0, .int .i64 (a : Int), .int .i64 0] 41)) := hb0.alloc (by simp) _
  generalize (w.alloc (.cells #[.int .u8 0, .int .i64 0, .int .i64 0] 41)).alloc (.cells #[.int .u8 0, .int .i64 (a : Int), .int .i64 0] 41) = W at *
  refine (CK.out _ hbW).mono ?_
  intro e w2 h2
  unfold kindPost at h2
  obtain ⟨rfl, hb2⟩ := h2
  have HB2 := Lib.hid (bthen hbW hb2)
  have H4 := Lib.hid (hT4.keep hb2)
  have H6 := Lib.hid (hT6.keep hb2)
  clear hb2 hbW hb0 hT4 hT6 CK
  generalize lex s a = q at *
  obtain ⟨k, t⟩ := q
  have HF : RowKit.Hid (∀ (tm : Array Value) W' (q : Int × Int × Int × Int), nextZ s a = q → Below w.heap.size w W' → TK W' w.heap.size q.1 q.2.1 q.2.2.1 → tm.getD 4 undef = .pointer (some ⟨w.heap.size, 0, none⟩) → tm.getD 5 undef = .int .i64 q.2.2.2 → bodyPost Tryz.prog Tryz.f27 Q .ret ⟨tm, []⟩ W') :=
    Lib.hid fun tm W' q h1 h2 h3 h4 h5 => by
      refine bodyPost_ret (results_cell_tmp rfl tm W' w.heap.size 41 #[.int .u8 q.1, .int .i64 q.2.1, .int .i64 q.2.2.1] (0, 0) _ h4 h3 Tryz.underlying41 rfl (by kernel_rfl)) rfl ?_
      rw [h5]
      exact HQ.out W' q h1 h2
  have z60 := H6.out.fz 0; have z62 := H6.out.fz 2; have c60 := H6.out.c0; have c61 := H6.out.c1; have c62 := H6.out.c2
  have z40 := H4.out.fz 0; have z41 := H4.out.fz 1; have z42 := H4.out.fz 2; have c40 := H4.out.c0; have c41 := H4.out.c1; have c42 := H4.out.c2
  by_cases hk : k = 0
  · subst hk
    rw [if_pos rfl] at HV
    go_wp2_with fail
    have hneq : w.heap.size + 1 ≠ w.heap.size := by omega
    refine HF.out _ _ (0, 0, 0, 4) HV.out ?_ ?_ rfl rfl
    · exact (((((HB2.out.setCell (p := ⟨w.heap.size + 1, 0, none⟩) (by show w.heap.size ≤ w.heap.size + 1; omega) _).setCell (p := ⟨w.heap.size + 1, 2, none⟩) (by show w.heap.size ≤ w.heap.size + 1; omega) _).setCell (p := ⟨w.heap.size, 0, none⟩) (Nat.le_refl _) _).setCell (p := ⟨w.heap.size, 1, none⟩) (Nat.le_refl _) _).setCell (p := ⟨w.heap.size, 2, none⟩) (Nat.le_refl _) _)
    · exact ((((H4.out.other ⟨w.heap.size + 1, 0, none⟩ _ (Ne.symm hneq)).other ⟨w.heap.size + 1, 2, none⟩ _ (Ne.symm hneq)).set0 _).set1 _).set2 _
  · have hkb : (k == 0) = false := by rw [beq_eq_false_iff_ne]; exact hk
    rw [if_neg hk] at HV
    go_wp2_with fail
    have hneq : w.heap.size + 1 ≠ w.heap.size := by omega
    refine HF.out _ _ (k, (a : Int), t, 0) HV.out ?_ ?_ rfl rfl
    · exact (((((HB2.out.setCell (p := ⟨w.heap.size + 1, 0, none⟩) (by show w.heap.size ≤ w.heap.size + 1; omega) _).setCell (p := ⟨w.heap.size + 1, 2, none⟩) (by show w.heap.size ≤ w.heap.size + 1; omega) _).setCell (p := ⟨w.heap.size, 0, none⟩) (Nat.le_refl _) _).setCell (p := ⟨w.heap.size, 1, none⟩) (Nat.le_refl _) _).setCell (p := ⟨w.heap.size, 2, none⟩) (Nat.le_refl _) _)
    · exact ((((H4.out.other ⟨w.heap.size + 1, 0, none⟩ _ (Ne.symm hneq)).other ⟨w.heap.size + 1, 2, none⟩ _ (Ne.symm hneq)).set0 _).set1 _).set2 _
end Go.Proofs.YtelfobnmiphdnaaGreatDoor
