/- Layer 6: the program's reader, walked: characters between single marks. -/
import Derived.Test.YtelfobnmiphdnaaGreatDoorQuoted3
namespace Go.Proofs.YtelfobnmiphdnaaGreatDoor
set_option linter.all false
open Go.RowKit
attribute [local irreducible] wpStill
set_option maxRecDepth 100000 in
set_option maxHeartbeats 4000000 in
theorem reader_plain39 (s : ByteArray) (b i : Nat) (l : List Int) (w0 : World) (hR : RS w0 b s (i : Nat) 39 l false) (hi : i < s.size) (h92 : bt s i ≠ 92) (hs : s.size ≤ 140737488351232) (hl : l.length ≤ i) :
    Calls Tryz.prog 108 #[.pointer (some ⟨b, 0, none⟩)] w0 (plainPost s b i 39 l w0) := by
  have hle := plainLen_le (mark := 39) hi
  have HQ : RowKit.Hid (∀ w', Below b w0 w' → (decide (plainLen s i 39 = 0) || decide (bt s i = 10)) = false → RS w' b s (i + plainLen s i 39 : Nat) 39 (l ++ nums (s.extract i (i + plainLen s i 39))) false → plainPost s b i 39 l w0 (.returned (.tuple #[])) w') :=
    Lib.hid fun w' h1 h2 h3 => by
      unfold plainPost
      refine ⟨h1, rfl, ?_⟩
      rw [plain_some (Or.inr rfl) hi h92 h2]
      exact h3
  have HQ2 : RowKit.Hid (∀ w' j l', Below b w0 w' → (decide (plainLen s i 39 = 0) || decide (bt s i = 10)) = true → RS w' b s j 39 l' true → plainPost s b i 39 l w0 (.returned (.tuple #[])) w') :=
    Lib.hid fun w' j l' h1 h2 h3 => by
      unfold plainPost
      refine ⟨h1, rfl, ?_⟩
      rw [plain_none (Or.inr rfl) h92 h2]
      exact ⟨j, l', h3⟩
  generalize plainPost s b i 39 l w0 = Q at *
  have CR := Lib.hid (fun w hT => runes_Read s i w hT)
  have hbt := bt_at s i hi
  have HR := Lib.hid hR
  have c2 := hR.c2
  clear hR
  have HHB := Lib.hid hbt
  generalize bt s i = c at *
  have hi' : (i : Int) < s.size := by omega
  have hn : plainLen s i 39 = (rd s i).2 := by unfold plainLen; rw [if_pos rfl]
  rw [hn] at HQ HQ2 hle
  have c0 := HR.out.c0; have c1 := HR.out.c1
  have hrd := rdI_nat s i
  go_enter Tryz.func108, Tryz.ntmps108
  go_wp2_with fail
  go_region_law (first | (go_simp; go_at_call 49; refine (CR.out _ HR.out.drew.tabs).mono ?_; rintro e w1 ⟨rfl, hb1⟩))
  all_goals (
    have HR1 := Lib.hid (HR.out.drew.below hb1)
    have HB1 := Lib.hid ((Below.refl b w0).drew.trans (hb1.mono (Nat.le_of_lt HR.out.drew.lt)))
    have hrl := rd_width s i
    clear CR HR hrd
    generalize (rd s i).2 = n at *
    generalize (rd s i).1 = r at *
    have hwr : IntKind.i64.wrap ((i : Int) + n) = (i : Int) + n := by rw [IntKind.wrap_i64]; omega
    have hsz : (s.extract i (i + n)).size = n := by simp; omega
    have hsum : (i : Int) + n ≤ s.size := by omega
    have hsum0 : (0 : Int) ≤ i := by omega
    have hsum3 : (0 : Int) ≤ (i : Int) + n := by omega
    have hsum4 : (0 : Int) ≤ (i : Int) + n ∧ (i : Int) + n ≤ s.size := ⟨hsum3, hsum⟩
    have hsum5 : (0 : Int) ≤ (i : Int) ∧ (i : Int) ≤ (i : Int) + n := ⟨hsum0, by omega⟩
    have hsum1 : (i : Int) ≤ (i : Int) + n := by omega
    have hsum2 : ((i : Int) + n).toNat = i + n := by omega
    have hslice : ∀ w, (Instr.slice 9 (.string s) (some (.int .i64 (i : Int))) (some (.int .i64 ((i : Int) + n))) none).run Tryz.prog w = .ok (.string (s.extract i (i + n))) w := fun w => by
      rw [run_slice_string_if w _ s _ _ _ _ Tryz.underlying9, if_pos hsum4, if_pos hsum5, Int.toNat_natCast, hsum2]
    have c0 := HR1.out.c0; have c1 := HR1.out.c1; have c4 := HR1.out.c4; have z4 := HR1.out.fz 4
    go_wp2_with fail
    by_cases g0 : n = 0
    · have g0b : ((n : Int) == 0) = true := by rw [beq_iff_eq]; omega
      have G0 := Lib.hid g0
      clear g0
      go_still_tail 21, (by kernel_rfl)
      change wpList _ _ _ _ _ w1.drew
      have HR2 := Lib.hid (HR1.out.bad' true).drew
      have HB2 := Lib.hid ((HB1.out.setCell (p := ⟨b, 4, none⟩) (Nat.le_refl b) (.bool true)).drew)
      go_wp2_with fail
      generalize (w1.setCell ⟨b, 4, none⟩ (.bool true)).drew = w2 at *
      have hr2 := HR2.out
      obtain ⟨out, c3, ho⟩ := hr2.c3
      have z3 := hr2.fz 3
      have c0d : w2.drew.cell? ⟨b, 0, none⟩ = some (.string s) := hr2.c0
      have c1d : w2.drew.cell? ⟨b, 1, none⟩ = some (.int .i64 i) := hr2.c1
      have c3d : w2.drew.cell? ⟨b, 3, none⟩ = some out := c3
      have c0 := hr2.c0; have c1 := hr2.c1
      have HR3 := Lib.hid hr2.drew
      have HO3 : RowKit.Hid (w2.drew.ownsRow (b + 1) 5 1 out l.length (l.map (Value.int .u8))) := ho
      have hbase : b + 1 ≤ w2.drew.heap.size := HR3.out.lt
      have HB3 := Lib.hid HB2.out.drew
      clear hr2 ho
      refine wp_region_still_tailF 19 (.pointer (some ⟨b, 0, none⟩)) (by kernel_rfl) (by kernel_rfl) (fun _ _ _ h => h) (Or.inl ⟨by rfl, by intro w; go_simp⟩) ?_
      simp only [List.take_succ_cons, List.take_zero, List.drop_succ_cons, List.drop_zero]
      repeat still_step
      try refine wpStill_nil ?_
      change wpList _ _ _ _ _ w2.drew
      refine wpList_append_str rfl _ _ 79 9 rfl (b + 1) 5 Tryz.underlying79 Tryz.underlying9 info_u8 out l.length (l.map (Value.int .u8)) rfl HO3.out (s.extract i (i + n)) rfl (by omega) hbase ?_
      intro v' w4 hown hgr
      obtain ⟨c3', z3'⟩ := HR3.out.grew_cell (Below.refl _ _) c3d hgr
      obtain ⟨va, vm, vc, rfl⟩ := owns_slice hown
      have c14 := (HR3.out.grew_blk (Below.refl _ _) c3d hgr 1).trans c1d
      have z14 := HR3.out.grew_fz (Below.refl _ _) c3d hgr 1
      rw [hsz] at hown
      obtain ⟨hr5, hb5⟩ := HR3.out.puts HB3.out c3d hgr (by rw [hsz]; exact hown)
      have HR5 := Lib.hid hr5
      have HB5 := Lib.hid hb5
      clear hr5 hb5
      go_wp2_with fail
      refine bodyPost_end (results_none rfl _ _ _) rfl ?_
      exact HQ2.out _ _ _ (HB5.out.setCell (by exact Nat.le_refl b) _) (by simp [G0.out]) (HR5.out.at' _)
    · have g0' : ¬ (n : Int) = 0 := by omega
      have g0b : ((n : Int) == 0) = false := by rw [beq_eq_false_iff_ne]; exact g0'
      by_cases g1 : c = 10
      · have g1' : (c : Int) = 10 := by omega
        have g1b : ((c : Int) == 10) = true := by rw [beq_iff_eq]; exact g1'
        go_still_tail 21, (by kernel_rfl)
        change wpList _ _ _ _ _ w1.drew
        have HR2 := Lib.hid (HR1.out.bad' true).drew
        have HB2 := Lib.hid ((HB1.out.setCell (p := ⟨b, 4, none⟩) (Nat.le_refl b) (.bool true)).drew)
        go_wp2_with fail
        generalize (w1.setCell ⟨b, 4, none⟩ (.bool true)).drew = w2 at *
        have hr2 := HR2.out
        obtain ⟨out, c3, ho⟩ := hr2.c3
        have z3 := hr2.fz 3
        have c0d : w2.drew.cell? ⟨b, 0, none⟩ = some (.string s) := hr2.c0
        have c1d : w2.drew.cell? ⟨b, 1, none⟩ = some (.int .i64 i) := hr2.c1
        have c3d : w2.drew.cell? ⟨b, 3, none⟩ = some out := c3
        have c0 := hr2.c0; have c1 := hr2.c1
        have HR3 := Lib.hid hr2.drew
        have HO3 : RowKit.Hid (w2.drew.ownsRow (b + 1) 5 1 out l.length (l.map (Value.int .u8))) := ho
        have hbase : b + 1 ≤ w2.drew.heap.size := HR3.out.lt
        have HB3 := Lib.hid HB2.out.drew
        clear hr2 ho
        refine wp_region_still_tailF 19 (.pointer (some ⟨b, 0, none⟩)) (by kernel_rfl) (by kernel_rfl) (fun _ _ _ h => h) (Or.inl ⟨by rfl, by intro w; go_simp⟩) ?_
        simp only [List.take_succ_cons, List.take_zero, List.drop_succ_cons, List.drop_zero]
        repeat still_step
        try refine wpStill_nil ?_
        change wpList _ _ _ _ _ w2.drew
        refine wpList_append_str rfl _ _ 79 9 rfl (b + 1) 5 Tryz.underlying79 Tryz.underlying9 info_u8 out l.length (l.map (Value.int .u8)) rfl HO3.out (s.extract i (i + n)) rfl (by omega) hbase ?_
        intro v' w4 hown hgr
        obtain ⟨c3', z3'⟩ := HR3.out.grew_cell (Below.refl _ _) c3d hgr
        obtain ⟨va, vm, vc, rfl⟩ := owns_slice hown
        have c14 := (HR3.out.grew_blk (Below.refl _ _) c3d hgr 1).trans c1d
        have z14 := HR3.out.grew_fz (Below.refl _ _) c3d hgr 1
        rw [hsz] at hown
        obtain ⟨hr5, hb5⟩ := HR3.out.puts HB3.out c3d hgr (by rw [hsz]; exact hown)
        have HR5 := Lib.hid hr5
        have HB5 := Lib.hid hb5
        clear hr5 hb5
        go_wp2_with fail
        refine bodyPost_end (results_none rfl _ _ _) rfl ?_
        exact HQ2.out _ _ _ (HB5.out.setCell (by exact Nat.le_refl b) _) (by simp [g1]) (HR5.out.at' _)
      · have g1' : ¬ (c : Int) = 10 := by omega
        have g1b : ((c : Int) == 10) = false := by rw [beq_eq_false_iff_ne]; exact g1'
        go_still_tail 21, (by kernel_rfl)
        change wpList _ _ _ _ _ w1.drew
        have HR2 := Lib.hid (HR1.out.bad' false).drew
        have HB2 := Lib.hid ((HB1.out.setCell (p := ⟨b, 4, none⟩) (Nat.le_refl b) (.bool false)).drew)
        go_wp2_with fail
        generalize (w1.setCell ⟨b, 4, none⟩ (.bool false)).drew = w2 at *
        have hr2 := HR2.out
        obtain ⟨out, c3, ho⟩ := hr2.c3
        have z3 := hr2.fz 3
        have c0d : w2.drew.cell? ⟨b, 0, none⟩ = some (.string s) := hr2.c0
        have c1d : w2.drew.cell? ⟨b, 1, none⟩ = some (.int .i64 i) := hr2.c1
        have c3d : w2.drew.cell? ⟨b, 3, none⟩ = some out := c3
        have c0 := hr2.c0; have c1 := hr2.c1
        have HR3 := Lib.hid hr2.drew
        have HO3 : RowKit.Hid (w2.drew.ownsRow (b + 1) 5 1 out l.length (l.map (Value.int .u8))) := ho
        have hbase : b + 1 ≤ w2.drew.heap.size := HR3.out.lt
        have HB3 := Lib.hid HB2.out.drew
        clear hr2 ho
        refine wp_region_still_tailF 19 (.pointer (some ⟨b, 0, none⟩)) (by kernel_rfl) (by kernel_rfl) (fun _ _ _ h => h) (Or.inl ⟨by rfl, by intro w; go_simp⟩) ?_
        simp only [List.take_succ_cons, List.take_zero, List.drop_succ_cons, List.drop_zero]
        repeat still_step
        try refine wpStill_nil ?_
        change wpList _ _ _ _ _ w2.drew
        refine wpList_append_str rfl _ _ 79 9 rfl (b + 1) 5 Tryz.underlying79 Tryz.underlying9 info_u8 out l.length (l.map (Value.int .u8)) rfl HO3.out (s.extract i (i + n)) rfl (by omega) hbase ?_
        intro v' w4 hown hgr
        obtain ⟨c3', z3'⟩ := HR3.out.grew_cell (Below.refl _ _) c3d hgr
        obtain ⟨va, vm, vc, rfl⟩ := owns_slice hown
        have c14 := (HR3.out.grew_blk (Below.refl _ _) c3d hgr 1).trans c1d
        have z14 := HR3.out.grew_fz (Below.refl _ _) c3d hgr 1
        rw [hsz] at hown
        obtain ⟨hr5, hb5⟩ := HR3.out.puts HB3.out c3d hgr (by rw [hsz]; exact hown)
        have HR5 := Lib.hid hr5
        have HB5 := Lib.hid hb5
        clear hr5 hb5
        go_wp2_with fail
        refine bodyPost_end (results_none rfl _ _ _) rfl ?_
        refine HQ.out _ (HB5.out.setCell (by exact Nat.le_refl b) _) (by simp [g0, g1]) ?_
        have := HR5.out.at' ((i + n : Nat) : Int)
        exact this
  )
theorem reader_plain (s : ByteArray) (b i mark : Nat) (hmark : mark = 34 ∨ mark = 39) (l : List Int) (w0 : World) (hR : RS w0 b s (i : Nat) mark l false) (hi : i < s.size) (h92 : bt s i ≠ 92) (hs : s.size ≤ 140737488351232) (hl : l.length ≤ i) :
    Calls Tryz.prog 108 #[.pointer (some ⟨b, 0, none⟩)] w0 (plainPost s b i mark l w0) := by
  rcases hmark with rfl | rfl
  · exact reader_plain34 s b i l w0 hR hi h92 hs hl
  · exact reader_plain39 s b i l w0 hR hi h92 hs hl
end Go.Proofs.YtelfobnmiphdnaaGreatDoor
