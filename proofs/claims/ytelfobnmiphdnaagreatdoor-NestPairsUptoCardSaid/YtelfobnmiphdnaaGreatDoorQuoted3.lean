/- Layer 6: the program's reader, walked: plain bytes and characters. -/
import Derived.Test.YtelfobnmiphdnaaGreatDoorQuoted2
import Derived.Test.YtelfobnmiphdnaaGreatDoorStill
import Derived.StillTailTactics
import Derived.Laws.DeepStrings4
namespace Go.Proofs.YtelfobnmiphdnaaGreatDoor
set_option linter.all false
open Go.RowKit
attribute [local irreducible] wpStill

theorem wpList_append_str {P : Program} {ops : Array Oper} {o : Oper} {rest : List Oper} {a : Act} {w : World} {Q : Exit → Act → World → Prop}
    (hgd : o.guard = none) (sl x : Operand) (t u : TypeId) (ho : o.op = .call { callee := .builtin .append, args := #[sl, x], argTypes := #[t, u] })
    (base : Nat) (e : TypeId) (ht : P.underlying t = some (.slice e)) (hu : P.underlying u = some .string) (hinfo : (P.info? e).map (fun i => (i.zero, i.size, i.bytes)) = some (some (.int .u8 0), 1, 1))
    (v : Value) (n : Nat) (xs : List Value) (hs : a.eval sl = v) (hown : w.ownsRow base e 1 v n xs) (s : ByteArray) (hx : a.eval x = .string s)
    (hbytes : n + s.size ≤ 140737488355328) (hbase : base ≤ w.heap.size)
    (h : ∀ v' w', w'.ownsRow base e 1 v' (n + s.size) (xs ++ Lib.strCells s) → w.grownBy w' v.ownBlock → wpList P ops Q rest (a.put o.dst v') w') :
    wpList P ops Q (o :: rest) a w := by
  have hw : Region.wanted o (yielded ops a.tmps) = true := by simp [Region.wanted, hgd]
  have h1 := step_append_str (K := wpList P ops Q rest) (Q := Q) (E := True) (ops := ops) hgd sl x t u ho base e ht hu hinfo v n xs hs hown s hx hbytes hbase h
  rw [if_pos hw] at h1
  unfold wpList
  rw [if_pos hw]
  exact Or.inl h1

theorem RS.grew_blk {w w1 w' : World} {b : Nat} {s : ByteArray} {i mark : Int} {l : List Int} {bad : Bool} (h : RS w b s i mark l bad) (hb : Below w.heap.size w w1) {out : Value} (hc : w.cell? ⟨b, 3, none⟩ = some out) (hg : w1.grownBy w' out.ownBlock) (k : Nat) : w'.cell? ⟨b, k, none⟩ = w.cell? ⟨b, k, none⟩ := by
  have hlt := h.lt
  obtain ⟨ht, h1, h2, out0, hh, ho0⟩ := h
  obtain rfl : out0 = out := by
    have : w.cell? ⟨b, 3, none⟩ = some out0 := by simp [World.cell?, hh]
    rw [this] at hc; exact Option.some.inj hc
  have hsz := hb.size
  have hblk : w'.heap[b]? = w.heap[b]? := by
    rw [hg.block b (by omega) ?_, hb.block b (by omega)]
    intro e
    have := (ho0.lt b e.symm).1
    omega
  exact World.cell?_of_block hblk
theorem RS.grew_fz {w w1 w' : World} {b : Nat} {s : ByteArray} {i mark : Int} {l : List Int} {bad : Bool} (h : RS w b s i mark l bad) (hb : Below w.heap.size w w1) {out : Value} (hc : w.cell? ⟨b, 3, none⟩ = some out) (hg : w1.grownBy w' out.ownBlock) (k : Nat) : w'.frozen? ⟨b, k, none⟩ = false := by
  have hlt := h.lt
  have hz := h.fz k
  obtain ⟨ht, h1, h2, out0, hh, ho0⟩ := h
  obtain rfl : out0 = out := by
    have : w.cell? ⟨b, 3, none⟩ = some out0 := by simp [World.cell?, hh]
    rw [this] at hc; exact Option.some.inj hc
  have hsz := hb.size
  have hblk : w'.heap[b]? = w.heap[b]? := by
    rw [hg.block b (by omega) ?_, hb.block b (by omega)]
    intro e
    have := (ho0.lt b e.symm).1
    omega
  rw [World.frozen?_of_block hblk]; exact hz
theorem RS.puts {w w0 w' : World} {b : Nat} {s t : ByteArray} {i mark : Int} {l : List Int} {bad : Bool} (h : RS w b s i mark l bad) (h0 : Below b w0 w) {out out' : Value}
    (hc : w.cell? ⟨b, 3, none⟩ = some out) (hg : w.grownBy w' out.ownBlock) (hown : w'.ownsRow (b + 1) 5 1 out' (l.length + t.size) (l.map (Value.int .u8) ++ Lib.strCells t)) :
    RS (w'.setCell ⟨b, 3, none⟩ out') b s i mark (l ++ nums t) bad ∧ Below b w0 (w'.setCell ⟨b, 3, none⟩ out') :=
  ⟨h.grew (Below.refl _ _) hc hg (by rw [List.length_append, nums_length]) (by rw [strCells_nums, List.map_append]) hown, h.grew_below h0 (Below.refl _ _) hc hg⟩
@[irreducible] def plainPost (s : ByteArray) (b i mark : Nat) (l : List Int) (w0 : World) (e : Ending) (w' : World) : Prop :=
  Below b w0 w' ∧ e = .returned (.tuple #[]) ∧ match item s i mark with
    | some (n, x) => RS w' b s (i + n : Nat) mark (l ++ x) false
    | none => ∃ j l', RS w' b s j mark l' true
/-- What 'plain' takes for the length. -/
def plainLen (s : ByteArray) (i mark : Nat) : Nat := if mark = 39 then (rd s i).2 else 1
theorem plain_some {s : ByteArray} {i mark : Nat} (hmark : mark = 34 ∨ mark = 39) (hi : i < s.size) (h92 : bt s i ≠ 92) (h : (decide (plainLen s i mark = 0) || decide (bt s i = 10)) = false) :
    item s i mark = some (plainLen s i mark, nums (s.extract i (i + plainLen s i mark))) := by
  simp at h
  unfold item
  rw [if_neg h92, if_neg h.2]
  unfold plainLen at h ⊢
  rcases hmark with rfl | rfl
  · simp
    rw [show ([(bt s i : Int)] : List Int) = nums (s.extract i (i + 1)) from ?_]
    have hz : (s.extract i (i + 1)).data.toList = [s.get! i] := by
      have := extract_list s i 1 (by omega)
      rw [ByteArray.toList_eq] at this
      rw [this]; rfl
    unfold nums
    rw [hz]; rfl
  · simp at h ⊢
    intro h0
    exact absurd h0 h.1
theorem plain_none {s : ByteArray} {i mark : Nat} (hmark : mark = 34 ∨ mark = 39) (h92 : bt s i ≠ 92) (h : (decide (plainLen s i mark = 0) || decide (bt s i = 10)) = true) : item s i mark = none := by
  simp at h
  unfold item
  rw [if_neg h92]
  by_cases h10 : bt s i = 10
  · rw [if_pos h10]
  · rw [if_neg h10]
    rcases h with h | h
    · unfold plainLen at h
      rcases hmark with rfl | rfl
      · simp at h
      · simp at h ⊢; exact h
    · exact absurd h h10
theorem plainLen_le {s : ByteArray} {i mark : Nat} (hi : i < s.size) : i + plainLen s i mark ≤ s.size := by
  unfold plainLen
  have := rd_width s i
  split <;> omega
set_option maxRecDepth 100000 in
set_option maxHeartbeats 4000000 in
theorem reader_plain34 (s : ByteArray) (b i : Nat) (l : List Int) (w0 : World) (hR : RS w0 b s (i : Nat) 34 l false) (hi : i < s.size) (h92 : bt s i ≠ 92) (hs : s.size ≤ 140737488351232) (hl : l.length ≤ i) :
    Calls Tryz.prog 108 #[.pointer (some ⟨b, 0, none⟩)] w0 (plainPost s b i 34 l w0) := by
  have hle := plainLen_le (mark := 34) hi
  have HQ : RowKit.Hid (∀ w', Below b w0 w' → (decide (plainLen s i 34 = 0) || decide (bt s i = 10)) = false → RS w' b s (i + plainLen s i 34 : Nat) 34 (l ++ nums (s.extract i (i + plainLen s i 34))) false → plainPost s b i 34 l w0 (.returned (.tuple #[])) w') :=
    Lib.hid fun w' h1 h2 h3 => by
      unfold plainPost
      refine ⟨h1, rfl, ?_⟩
      rw [plain_some (Or.inl rfl) hi h92 h2]
      exact h3
  have HQ2 : RowKit.Hid (∀ w' j l', Below b w0 w' → (decide (plainLen s i 34 = 0) || decide (bt s i = 10)) = true → RS w' b s j 34 l' true → plainPost s b i 34 l w0 (.returned (.tuple #[])) w') :=
    Lib.hid fun w' j l' h1 h2 h3 => by
      unfold plainPost
      refine ⟨h1, rfl, ?_⟩
      rw [plain_none (Or.inl rfl) h92 h2]
      exact ⟨j, l', h3⟩
  generalize plainPost s b i 34 l w0 = Q at *
  have CR := Lib.hid (fun w hT => runes_Read s i w hT)
  have hbt := bt_at s i hi
  have HR := Lib.hid hR
  have c2 := hR.c2
  clear hR
  have HHB := Lib.hid hbt
  generalize bt s i = c at *
  have hi' : (i : Int) < s.size := by omega
  have hn : plainLen s i 34 = 1 := by unfold plainLen; rw [if_neg (by omega)]
  rw [hn] at HQ HQ2 hle
  have c0 := HR.out.c0; have c1 := HR.out.c1; have c4 := HR.out.c4; have z4 := HR.out.fz 4
  go_enter Tryz.func108, Tryz.ntmps108
  go_wp2_with fail
  by_cases g1 : c = 10
  · have g1' : (c : Int) = 10 := by omega
    go_still_tail 21, (by kernel_rfl)
    change wpList _ _ _ _ _ w0.drew
    have HR2 := Lib.hid (HR.out.bad' true).drew
    have HB2 := Lib.hid (((Below.refl b w0).setCell (p := ⟨b, 4, none⟩) (Nat.le_refl b) (.bool true)).drew)
    go_wp2_with fail
    generalize (w0.setCell ⟨b, 4, none⟩ (.bool true)).drew = w2 at *
    have hr2 := HR2.out
    obtain ⟨out, c3, ho⟩ := hr2.c3
    have z3 := hr2.fz 3
    have c0d : w2.drew.cell? ⟨b, 0, none⟩ = some (.string s) := hr2.c0
    have c1d : w2.drew.cell? ⟨b, 1, none⟩ = some (.int .i64 i) := hr2.c1
    have c3d : w2.drew.cell? ⟨b, 3, none⟩ = some out := c3
    have c0 := hr2.c0; have c1 := hr2.c1
    have HR3 := Lib.hid hr2.drew
    have HO3 : RowKit.Hid (w2.drew.ownsRow (b + 1) 5 1 out l.length (l.map (Value.int .u8))) := ho
    have hbase : b + 1 ≤ w2.drew.heap.size := HR3.out.lt
    have hsz : (s.extract i (i + 1)).size = 1 := by simp; omega
    have hsum : (i : Int) + 1 ≤ s.size := by omega
    have hsum0 : (0 : Int) ≤ i := by omega
    have hsum3 : (0 : Int) ≤ (i : Int) + 1 := by omega
    have hsum4 : (0 : Int) ≤ (i : Int) + 1 ∧ (i : Int) + 1 ≤ s.size := ⟨hsum3, hsum⟩
    have hsum5 : (0 : Int) ≤ (i : Int) ∧ (i : Int) ≤ (i : Int) + 1 := ⟨hsum0, by omega⟩
    have hsum1 : (i : Int) ≤ (i : Int) + 1 := by omega
    have hsum2 : ((i : Int) + 1).toNat = i + 1 := by omega
    have hslice : ∀ w, (Instr.slice 9 (.string s) (some (.int .i64 (i : Int))) (some (.int .i64 ((i : Int) + 1))) none).run Tryz.prog w = .ok (.string (s.extract i (i + 1))) w := fun w => by
      rw [run_slice_string_if w _ s _ _ _ _ Tryz.underlying9, if_pos hsum4, if_pos hsum5, Int.toNat_natCast, hsum2]
    have hwr : IntKind.i64.wrap ((i : Int) + 1) = (i : Int) + 1 := by rw [IntKind.wrap_i64]; omega
    have HB3 := Lib.hid HB2.out.drew
    clear hr2 ho
    refine wp_region_still_tailF 19 (.pointer (some ⟨b, 0, none⟩)) (by kernel_rfl) (by kernel_rfl) (fun _ _ _ h => h) (Or.inl ⟨by rfl, by intro w; go_simp⟩) ?_
    simp only [List.take_succ_cons, List.take_zero, List.drop_succ_cons, List.drop_zero]
    repeat still_step
    try refine wpStill_nil ?_
    change wpList _ _ _ _ _ w2.drew
    refine wpList_append_str rfl _ _ 79 9 rfl (b + 1) 5 Tryz.underlying79 Tryz.underlying9 info_u8 out l.length (l.map (Value.int .u8)) rfl HO3.out (s.extract i (i + 1)) rfl (by omega) hbase ?_
    intro v' w4 hown hgr
    obtain ⟨c3', z3'⟩ := HR3.out.grew_cell (Below.refl _ _) c3d hgr
    obtain ⟨va, vm, vc, rfl⟩ := owns_slice hown
    have c14 := (HR3.out.grew_blk (Below.refl _ _) c3d hgr 1).trans c1d
    have z14 := HR3.out.grew_fz (Below.refl _ _) c3d hgr 1
    obtain ⟨hr5, hb5⟩ := HR3.out.puts HB3.out c3d hgr hown
    have HR5 := Lib.hid hr5
    have HB5 := Lib.hid hb5
    clear hr5 hb5
    go_wp2_with fail
    refine bodyPost_end (results_none rfl _ _ _) rfl ?_
    exact HQ2.out _ _ _ (HB5.out.setCell (by exact Nat.le_refl b) _) (by simp [g1]) (HR5.out.at' _)
  · have g1' : ¬ (c : Int) = 10 := by omega
    have g1b : ((c : Int) == 10) = false := by rw [beq_eq_false_iff_ne]; exact g1'
    go_still_tail 21, (by kernel_rfl)
    change wpList _ _ _ _ _ w0.drew
    have HR2 := Lib.hid (HR.out.bad' false).drew
    have HB2 := Lib.hid (((Below.refl b w0).setCell (p := ⟨b, 4, none⟩) (Nat.le_refl b) (.bool false)).drew)
    go_wp2_with fail
    generalize (w0.setCell ⟨b, 4, none⟩ (.bool false)).drew = w2 at *
    have hr2 := HR2.out
    obtain ⟨out, c3, ho⟩ := hr2.c3
    have z3 := hr2.fz 3
    have c0d : w2.drew.cell? ⟨b, 0, none⟩ = some (.string s) := hr2.c0
    have c1d : w2.drew.cell? ⟨b, 1, none⟩ = some (.int .i64 i) := hr2.c1
    have c3d : w2.drew.cell? ⟨b, 3, none⟩ = some out := c3
    have c0 := hr2.c0; have c1 := hr2.c1
    have HR3 := Lib.hid hr2.drew
    have HO3 : RowKit.Hid (w2.drew.ownsRow (b + 1) 5 1 out l.length (l.map (Value.int .u8))) := ho
    have hbase : b + 1 ≤ w2.drew.heap.size := HR3.out.lt
    have hsz : (s.extract i (i + 1)).size = 1 := by simp; omega
    have hsum : (i : Int) + 1 ≤ s.size := by omega
    have hsum0 : (0 : Int) ≤ i := by omega
    have hsum3 : (0 : Int) ≤ (i : Int) + 1 := by omega
    have hsum4 : (0 : Int) ≤ (i : Int) + 1 ∧ (i : Int) + 1 ≤ s.size := ⟨hsum3, hsum⟩
    have hsum5 : (0 : Int) ≤ (i : Int) ∧ (i : Int) ≤ (i : Int) + 1 := ⟨hsum0, by omega⟩
    have hsum1 : (i : Int) ≤ (i : Int) + 1 := by omega
    have hsum2 : ((i : Int) + 1).toNat = i + 1 := by omega
    have hslice : ∀ w, (Instr.slice 9 (.string s) (some (.int .i64 (i : Int))) (some (.int .i64 ((i : Int) + 1))) none).run Tryz.prog w = .ok (.string (s.extract i (i + 1))) w := fun w => by
      rw [run_slice_string_if w _ s _ _ _ _ Tryz.underlying9, if_pos hsum4, if_pos hsum5, Int.toNat_natCast, hsum2]
    have hwr : IntKind.i64.wrap ((i : Int) + 1) = (i : Int) + 1 := by rw [IntKind.wrap_i64]; omega
    have HB3 := Lib.hid HB2.out.drew
    clear hr2 ho
    refine wp_region_still_tailF 19 (.pointer (some ⟨b, 0, none⟩)) (by kernel_rfl) (by kernel_rfl) (fun _ _ _ h => h) (Or.inl ⟨by rfl, by intro w; go_simp⟩) ?_
    simp only [List.take_succ_cons, List.take_zero, List.drop_succ_cons, List.drop_zero]
    repeat still_step
    try refine wpStill_nil ?_
    change wpList _ _ _ _ _ w2.drew
    refine wpList_append_str rfl _ _ 79 9 rfl (b + 1) 5 Tryz.underlying79 Tryz.underlying9 info_u8 out l.length (l.map (Value.int .u8)) rfl HO3.out (s.extract i (i + 1)) rfl (by omega) hbase ?_
    intro v' w4 hown hgr
    obtain ⟨c3', z3'⟩ := HR3.out.grew_cell (Below.refl _ _) c3d hgr
    obtain ⟨va, vm, vc, rfl⟩ := owns_slice hown
    have c14 := (HR3.out.grew_blk (Below.refl _ _) c3d hgr 1).trans c1d
    have z14 := HR3.out.grew_fz (Below.refl _ _) c3d hgr 1
    obtain ⟨hr5, hb5⟩ := HR3.out.puts HB3.out c3d hgr hown
    have HR5 := Lib.hid hr5
    have HB5 := Lib.hid hb5
    clear hr5 hb5
    go_wp2_with fail
    refine bodyPost_end (results_none rfl _ _ _) rfl ?_
    refine HQ.out _ (HB5.out.setCell (by exact Nat.le_refl b) _) (by simp [g1]) ?_
    have := HR5.out.at' ((i + 1 : Nat) : Int)
    exact this
end Go.Proofs.YtelfobnmiphdnaaGreatDoor
