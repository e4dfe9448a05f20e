/- The program's Name of layer 2, walked. -/
import Derived.Test.YtfgchnhjboehpaaDoorClass2
namespace Go.Proofs.YtfgchnhjboehpaaDoor
open Go.RowKit

def nats (l : List Nat) : List Int := l.map fun (n : Nat) => (n : Int)
theorem isEmpty_size (s : ByteArray) : s.toList.isEmpty = decide (s.size = 0) := by
  rw [ByteArray.toList_eq, Bool.eq_iff_iff, List.isEmpty_iff_length_eq_zero, ← size_data]; simp
set_option maxRecDepth 100000 in
set_option maxHeartbeats 4000000 in
theorem class_Name (s : ByteArray) (w : World) (hT : Tabs w) :
    Calls Tryd.prog 28 #[.string s] w fun e w' => e = .returned (.bool (name s)) ∧ Below w.heap.size w w' := by
  have CW := Lib.hid (fun w => class_Word s w)
  have CB := Lib.hid (fun w hT => runes_Bad s w hT)
  have HN := Lib.hid (show name s = (!s.toList.isEmpty && !word s && decide (bad s < 0) && chk true (nats (chars s))) by unfold name nats; rfl)
  cases he : s.toList.isEmpty
  · have he2 : (s.toList == []) = false := by
      rw [beq_eq_false_iff_ne]; intro e; rw [e] at he; cases he
    cases hw : word s
    · rw [hw] at CW
      by_cases hb : bad s < 0
      · have hb2 : decide (0 ≤ bad s) = false := by simpa using hb
        have HB := Lib.hid ((bad_neg s).1 hb)
        have HN2 : Hid (name s = chk true (nats (scan s 0).1)) := by
          have := HN.out
          rw [he, hw, decide_eq_true hb] at this
          rw [this]; unfold chars; rfl
        clear HN hw hb
        go_enter Tryd.func28, Tryd.ntmps28
        go_wp2_with fail
        refine (CW.out _).mono ?_; rintro e w1 ⟨rfl, rfl⟩
        go_wp2_with fail
        refine (CB.out _ hT).mono ?_; rintro e w1 ⟨rfl, hb1⟩
        go_wp2_with fail
        have hz1 := hb1.size
        go_loopw [] (fun wr => ∃ pos, wr.heap[w1.heap.size]? = some (.stringIter s pos) ∧ pos ≤ s.size ∧ (scan s pos).2 = none ∧ name s = chk (pos == 0) (nats (scan s pos).1) ∧ Below w.heap.size w wr) (fun wr => iterLeft w1.heap.size wr)
        case atStart => exact ⟨0, World.iter_heap _ _ _, Nat.zero_le _, HB.out, HN2.out, hb1.alloc hb1.size _⟩
        case round =>
          obtain ⟨pos, hk, hpos, hnn, hnm, hb⟩ := hrel
          have HK := Lib.hid hk
          have HNM := Lib.hid hnm
          have HNN := Lib.hid hnn
          have hz := keeps_lt hk
          clear hnm
          by_cases hp : pos < s.size
          · have hn := fun ty => Lib.run_next_any_at (P := Tryd.prog) wr w1.heap.size s pos ty hk hp
            have hb2' : Below w.heap.size w (wr.iterAt w1.heap.size s (pos + (Utf8.decode s pos).2)) := Lib.below_iterAt hb (by omega) _ _
            have hk2 := Lib.iterAt_heap wr w1.heap.size s pos (pos + (Utf8.decode s pos).2) hk
            generalize hW : wr.iterAt w1.heap.size s (pos + (Utf8.decode s pos).2) = W at *
            rcases rd_cases s pos hp with ⟨h1, h2⟩ | ⟨h1, h2, h3, h4, h5, h6⟩
            · exact absurd h1 (bad_good hp hnn)
            · have HR := Lib.hid (scan_step hp (by omega))
              have hrl := rd_le s pos
              rw [h6] at hn hk2
              generalize rd s pos = d at *
              obtain ⟨d1, d2⟩ := d
              simp only [] at *
              have hp2 := Lib.hid h3
              have CL := Lib.hid (fun w => class_Letter d1 w)
              have CD := Lib.hid (fun w => class_Digit d1 (by omega) w)
              have hnx : name s = ((letter d1 || (!(pos == 0) && digit d1)) && chk false (nats (scan s (pos + d2)).1)) := by
                rw [HNM.out, HR.out]; rfl
              have HNX := Lib.hid hnx
              have hq : ((pos : Int) == 0) = (pos == 0) := by rw [Bool.eq_iff_iff]; simp
              have hp0 : (pos + d2 == 0) = false := by simp; omega
              have HP0 := Lib.hid hp0
              clear hW h4 h5 h6 h3 hk hnn hnx hp0
              cases hl : letter d1
              · rw [hl] at CL HNX
                cases h0 : (pos == 0)
                · rw [h0] at hq HNX
                  cases hd : digit d1
                  · rw [hd] at CD HNX
                    clear hl hd h0
                    go_wp2_with fail
                    refine (CL.out _).mono ?_; rintro e w3 ⟨rfl, hb3⟩
                    go_wp2_with fail
                    refine (CD.out _).mono ?_; rintro e w4 ⟨rfl, rfl⟩
                    go_wp2_with fail
                    go_ret
                    exact ⟨ret_bool (by rw [HNX.out]; rfl), bthen hb2' hb3⟩
                  · rw [hd] at CD HNX
                    clear hl hd h0
                    go_wp2_with fail
                    refine (CL.out _).mono ?_; rintro e w3 ⟨rfl, hb3⟩
                    have hk3 := keeps hb3 hk2
                    go_wp2_with fail
                    refine (CD.out _).mono ?_; rintro e w4 ⟨rfl, rfl⟩
                    go_wp2_with fail
                    go_roundw
                    case rel => exact ⟨pos + d2, hk3, hp2.out, by rw [← HNN.out, HR.out], by rw [HNX.out, HP0.out]; rfl, bthen hb2' hb3⟩
                    case measure => rw [iterLeft_of hk3, iterLeft_of HK.out]; have := hp2.out; omega
                · rw [h0] at hq HNX
                  clear hl h0
                  go_wp2_with fail
                  refine (CL.out _).mono ?_; rintro e w3 ⟨rfl, hb3⟩
                  go_wp2_with fail
                  go_ret
                  exact ⟨ret_bool (by rw [HNX.out]; rfl), bthen hb2' hb3⟩
              · rw [hl] at CL HNX
                clear hl hq
                go_wp2_with fail
                refine (CL.out _).mono ?_; rintro e w3 ⟨rfl, hb3⟩
                have hk3 := keeps hb3 hk2
                go_wp2_with fail
                go_roundw
                case rel => exact ⟨pos + d2, hk3, hp2.out, by rw [← HNN.out, HR.out], by rw [HNX.out, HP0.out]; simp, bthen hb2' hb3⟩
                case measure => rw [iterLeft_of hk3, iterLeft_of HK.out]; have := hp2.out; omega
          · have hn := fun ty => Lib.run_next_end_at (P := Tryd.prog) wr w1.heap.size s pos ty hk hp
            have HE := Lib.hid (show name s = true by rw [HNM.out, scan_end (by omega)]; rfl)
            clear hk hnn
            go_wp2_with fail
            go_ret
            exact ⟨ret_bool HE.out.symm, hb⟩
      · have hb2 : decide (0 ≤ bad s) = true := by simpa using hb
        have HN2 : Hid (name s = false) := by
          have := HN.out
          rw [he, hw, decide_eq_false hb] at this
          rw [this]; rfl
        clear HN hw hb
        go_enter Tryd.func28, Tryd.ntmps28
        go_wp2_with fail
        refine (CW.out _).mono ?_; rintro e w1 ⟨rfl, rfl⟩
        go_wp2_with fail
        refine (CB.out _ hT).mono ?_; rintro e w1 ⟨rfl, hb1⟩
        go_wp2_with fail
        go_ret
        exact ⟨ret_bool HN2.out.symm, hb1⟩
    · rw [hw] at CW
      have HN2 : Hid (name s = false) := by
        have := HN.out
        rw [he, hw] at this
        rw [this]; rfl
      clear HN hw
      go_enter Tryd.func28, Tryd.ntmps28
      go_wp2_with fail
      refine (CW.out _).mono ?_; rintro e w1 ⟨rfl, rfl⟩
      go_wp2_with fail
      go_ret
      exact ⟨ret_bool HN2.out.symm, Below.refl _ _⟩
  · have he2 : (s.toList == []) = true := by
      rw [List.isEmpty_iff.1 he]; rfl
    have HN2 : Hid (name s = false) := by
      have := HN.out
      rw [he] at this
      rw [this]; rfl
    clear HN
    go_enter Tryd.func28, Tryd.ntmps28
    go_wp2_with fail
    go_ret
    exact ⟨ret_bool HN2.out.symm, Below.refl _ _⟩
end Go.Proofs.YtfgchnhjboehpaaDoor
