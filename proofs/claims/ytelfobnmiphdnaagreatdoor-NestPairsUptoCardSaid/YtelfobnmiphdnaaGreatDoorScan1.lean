/- Layer 7: the program's functions, walked: Clean, word, sign. -/
import Derived.Test.YtelfobnmiphdnaaGreatDoorScanP
import Derived.Test.YtelfobnmiphdnaaGreatDoorClass2
import Derived.Test.YtelfobnmiphdnaaGreatDoorNum2
import Derived.Deep.DeepCutAuto
namespace Go.Proofs.YtelfobnmiphdnaaGreatDoor
set_option linter.all false
open Go.RowKit

theorem nb0 (c : Nat) (h : c ≠ 0) : ((c : Int) == 0) = false := by rw [beq_eq_false_iff_ne]; omega
theorem upTo_clean {s : ByteArray} (hs : (scan s (upTo s)).2 = (scan s 0).2) : cleanZ s (upTo s) = if upTo s < s.size then (upTo s : Int) else -1 := by
  by_cases h : upTo s < s.size
  · rw [if_pos h]
    have h0 := upTo_end hs h
    exact clean_bad h (by unfold badHere; simp [h0])
  · rw [if_neg h, clean_end h]
set_option maxRecDepth 100000 in
set_option maxHeartbeats 4000000 in
theorem scan_Clean (s : ByteArray) (w : World) (hT : Tabs w) :
    Calls Tryz.prog 26 #[.string s] w fun e w' => e = .returned (.int .i64 (clean s)) ∧ Below w.heap.size w w' := by
  have HQ : RowKit.Hid (∀ w' n, clean s = n → Below w.heap.size w w' → (fun (e : Ending) w' => e = .returned (.int .i64 (clean s)) ∧ Below w.heap.size w w') (.returned (.int .i64 n)) w') := Lib.hid fun w' n h h2 => ⟨by rw [h], h2⟩
  generalize (fun (e : Ending) w' => e = .returned (.int .i64 (clean s)) ∧ Below w.heap.size w w') = Q at *
  have CB := runes_Bad s w hT
  rw [bad_upTo] at CB
  have HS := Lib.hid (fun i => @upTo_step s i)
  have HR := Lib.hid (fun i => @upTo_rd s i)
  have HC := Lib.hid (@upTo_clean s)
  have hle := upTo_le s
  have HCL : RowKit.Hid (clean s = cleanZ s 0) := Lib.hid (by unfold clean; rfl)
  have hz : (s.extract 0 (upTo s)).size = upTo s := by rw [ByteArray.size_extract]; omega
  have hsl : ∀ w, (Instr.slice 9 (.string s) none (some (.int .i64 (upTo s : Int))) none).run Tryz.prog w = .ok (.string (s.extract 0 (upTo s))) w := fun w => by
    rw [run_slice_string_to_if _ _ s _ _ Tryz.underlying9, if_pos ⟨by omega, by omega⟩, Int.toNat_natCast]
  generalize upTo s = B at *
  generalize s.extract 0 B = t at *
  have HZ := Lib.hid hz
  clear hz
  obtain ⟨bv, hbv⟩ : ∃ bv : Int, bv = if B < s.size then (B : Int) else -1 := ⟨_, rfl⟩
  rw [← hbv] at CB
  have CBh := Lib.hid CB
  clear CB
  have hbc : (B < s.size ∧ bv = B) ∨ (B = s.size ∧ bv = -1) := by
    by_cases h : B < s.size
    · exact Or.inl ⟨h, by rw [hbv, if_pos h]⟩
    · exact Or.inr ⟨by omega, by rw [hbv, if_neg h]⟩
  clear hbv
  go_enter Tryz.func26, Tryz.ntmps26
  go_wp2_with fail
  refine CBh.out.mono ?_
  rintro e w1 ⟨rfl, hb1⟩
  have HB1 := Lib.hid hb1
  clear hb1
  go_upto_if 9 with (fail)
  go_cut [3] (fun v wx => v = .int .i64 (B : Int) ∧ Below w.heap.size w wx)
  case first =>
    rcases hbc with ⟨hlt, rfl⟩ | ⟨hBe, rfl⟩
    · have hB0 : ¬ (B : Int) < 0 := by omega
      go_wp2_with fail
      go_meet
      exact ⟨rfl, HB1.out⟩
    · have HBE := Lib.hid hBe
      clear hBe
      go_wp2_with fail
      go_meet
      exact ⟨by rw [HBE.out], HB1.out⟩
  case rest =>
    obtain ⟨rfl, hbx⟩ := hcut
    clear hbc CBh
    go_wp2_with fail
    go_loopw [] (fun wr => ∃ pos, wr.heap[wc.heap.size]? = some (.stringIter t pos) ∧ pos ≤ B ∧ (scan s pos).2 = (scan s 0).2 ∧ clean s = cleanZ s pos ∧ Below w.heap.size w wr) (fun wr => iterLeft wc.heap.size wr)
    case atStart => exact ⟨0, World.iter_heap _ _ _, Nat.zero_le _, rfl, HCL.out, hbx.alloc hbx.size _⟩
    case round =>
      obtain ⟨pos, hk, hpos, hsc, hcl, hb⟩ := hrel
      have HK := Lib.hid hk
      have HCP := Lib.hid hcl
      have HSC := Lib.hid hsc
      have hz1 := keeps_lt hk
      have hbs := hbx.size
      clear hcl
      by_cases hp : pos < B
      · have hpt : pos < t.size := by have := HZ.out; omega
        obtain ⟨h0, hn0, hs2⟩ := HS.out _ hsc hp
        have hrt := HR.out _ h0 hn0
        have hn := fun ty => Lib.run_next_any_at (P := Tryz.prog) wr wc.heap.size t pos ty hk hpt
        have hb2 : Below w.heap.size w (wr.iterAt wc.heap.size t (pos + (Utf8.decode t pos).2)) := Lib.below_iterAt hb (by omega) _ _
        have hk2 := Lib.iterAt_heap wr wc.heap.size t pos (pos + (Utf8.decode t pos).2) hk
        generalize hW : wr.iterAt wc.heap.size t (pos + (Utf8.decode t pos).2) = W at *
        have hdec : Utf8.decode t pos = rd s pos := by
          rcases rd_cases t pos hpt with ⟨h1, _⟩ | ⟨_, _, _, _, _, h6⟩
          · rw [hrt] at h1; rw [h1] at h0; exact absurd rfl h0
          · rw [h6, hrt]
        rw [hdec] at hn hk2
        have HBad : RowKit.Hid (badHere s pos = (decide ((rd s pos).1 = 0) || (decide ((rd s pos).1 = 65279) && decide (0 < pos)))) := Lib.hid (by unfold badHere; simp [h0])
        have HStep := Lib.hid (@clean_step s pos (by omega))
        have HBd := Lib.hid (@clean_bad s pos (by omega))
        have hrl := rd_le s pos
        clear hW hdec hrt hk hsc hb
        generalize rd s pos = d at *
        obtain ⟨r, n⟩ := d
        simp only [] at *
        have HN0 := Lib.hid hn0
        have HS2 := Lib.hid hs2
        have H00 := Lib.hid h0
        clear hn0 hs2 h0
        by_cases hr0 : r = 0
        · subst hr0
          have HC0 : RowKit.Hid (clean s = (pos : Int)) := Lib.hid (by rw [HCP.out]; exact HBd.out (by rw [HBad.out]; rfl))
          go_wp2_with fail
          show Q (.returned (.int .i64 (pos : Int))) _
          exact HQ.out _ _ HC0.out hb2
        · have hr0' : ((r : Int) == 0) = false := nb0 r hr0
          have hr0'' : ¬ (r : Int) = 0 := by omega
          by_cases hrm : r = 65279
          · subst hrm
            by_cases hp0 : 0 < pos
            · have hp0' : (0 : Int) < pos := by omega
              have HC0 : RowKit.Hid (clean s = (pos : Int)) := Lib.hid (by rw [HCP.out]; exact HBd.out (by rw [HBad.out]; simp [hp0]))
              go_wp2_with fail
              show Q (.returned (.int .i64 (pos : Int))) _
              exact HQ.out _ _ HC0.out hb2
            · have hp0' : ¬ (0 : Int) < pos := by omega
              have HC0 : RowKit.Hid (clean s = cleanZ s (pos + n)) := Lib.hid (by rw [HCP.out]; exact HStep.out (by rw [HBad.out]; simp [hp0]))
              go_wp2_with fail
              go_roundw
              case rel => exact ⟨pos + n, hk2, HN0.out, HS2.out, HC0.out, hb2⟩
              case measure => rw [iterLeft_of hk2, iterLeft_of HK.out]; have := HN0.out; have := H00.out; have := HZ.out; omega
          · have hrm' : ((r : Int) == 65279) = false := by rw [beq_eq_false_iff_ne]; omega
            have hrm'' : ¬ (r : Int) = 65279 := by omega
            have HC0 : RowKit.Hid (clean s = cleanZ s (pos + n)) := Lib.hid (by rw [HCP.out]; exact HStep.out (by rw [HBad.out]; simp [hr0, hrm]))
            clear hr0 hrm
            go_wp2_with fail
            go_roundw
            case rel => exact ⟨pos + n, hk2, HN0.out, HS2.out, HC0.out, hb2⟩
            case measure => rw [iterLeft_of hk2, iterLeft_of HK.out]; have := HN0.out; have := H00.out; have := HZ.out; omega
      · have hpB : pos = B := by omega
        have hpt : ¬ pos < t.size := by have := HZ.out; omega
        have hn := fun ty => Lib.run_next_end_at (P := Tryz.prog) wr wc.heap.size t pos ty hk hpt
        have HF : RowKit.Hid (clean s = if B < s.size then (B : Int) else -1) := Lib.hid (by
          rw [HCP.out, hpB]
          exact HC.out (by rw [← hpB]; exact hsc))
        clear hk hsc hpB hpt
        by_cases hlt : B < s.size
        · have hlt' : (B : Int) < s.size := by omega
          rw [if_pos hlt] at HF
          go_wp2_with fail
          show Q (.returned (.int .i64 (B : Int))) _
          exact HQ.out _ _ HF.out hb
        · have hlt' : ¬ (B : Int) < s.size := by omega
          rw [if_neg hlt] at HF
          go_wp2_with fail
          show Q (.returned (.int .i64 (-1))) _
          exact HQ.out _ _ HF.out hb
end Go.Proofs.YtelfobnmiphdnaaGreatDoor
