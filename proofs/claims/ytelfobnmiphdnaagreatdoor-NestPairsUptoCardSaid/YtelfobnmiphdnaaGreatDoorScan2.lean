/- Layer 7: the program's functions, walked: word, sign. -/
import Derived.Test.YtelfobnmiphdnaaGreatDoorScan1
namespace Go.Proofs.YtelfobnmiphdnaaGreatDoor
set_option linter.all false
open Go.RowKit

theorem letter_bad : letter 65533 = false := by unfold letter; decide +kernel
theorem digit_bad : digit 65533 = false := by unfold digit; decide +kernel
theorem decode_tail (s : ByteArray) (a pos : Nat) (ha : a ≤ s.size) (hp : pos < (s.extract a s.size).size) :
    (rd s (a + pos) = (0, 0) ∧ Utf8.decode (s.extract a s.size) pos = (65533, 1)) ∨ ((rd s (a + pos)).2 ≠ 0 ∧ Utf8.decode (s.extract a s.size) pos = rd s (a + pos)) := by
  have e := cut_at s a ha
  have hz : (s.extract 0 a).size = a := by rw [ByteArray.size_extract]; omega
  have hr := rd_right (s.extract 0 a) (s.extract a s.size) pos
  rw [e, hz] at hr
  rw [hr]
  rcases rd_cases (s.extract a s.size) pos hp with ⟨h1, h2⟩ | ⟨h1, _, _, _, _, h2⟩
  · exact Or.inl ⟨h1, h2⟩
  · exact Or.inr ⟨by omega, h2⟩
theorem wordTo_yes {s : ByteArray} {i : Nat} (h : i < s.size) (hc : inWord s i = true) : wordTo s i = wordTo s (i + (rd s i).2) := by rw [wordTo, dif_pos ⟨h, hc⟩]
theorem wordTo_no {s : ByteArray} {i : Nat} (h : ¬ (i < s.size ∧ inWord s i = true)) : wordTo s i = i := by rw [wordTo, dif_neg h]
@[irreducible] def wordPost (s : ByteArray) (a : Nat) (w0 : World) (e : Ending) (w' : World) : Prop :=
  e = .returned (.tuple #[.int .u8 (if word (s.extract a (wordTo s a)) then 2 else 1), .int .i64 (wordTo s a : Nat)]) ∧ Below w0.heap.size w0 w'
set_option maxRecDepth 100000 in
set_option maxHeartbeats 4000000 in
theorem scan_word (s : ByteArray) (a : Nat) (ha : a ≤ s.size) (hs : s.size ≤ 2147483647) (w : World) :
    Calls Tryz.prog 55 #[.string s, .int .i64 (a : Int)] w (wordPost s a w) := by
  have HQ : RowKit.Hid (∀ w' b, word (s.extract a (wordTo s a)) = b → Below w.heap.size w w' → wordPost s a w (.returned (.tuple #[.int .u8 (if b = true then 2 else 1), .int .i64 (wordTo s a : Nat)])) w') := Lib.hid fun w' b h h2 => by
    unfold wordPost; rw [h]; exact ⟨rfl, h2⟩
  generalize wordPost s a w = Q at *
  have hE := wordTo_le s a ha
  have CW := Lib.hid (fun w => class_Word (s.extract a (wordTo s a)) w)
  have hz : (s.extract a s.size).size = s.size - a := by rw [ByteArray.size_extract]; omega
  have hsl := fun w => slice_from1 s (a : Int) a rfl ha w
  have hsl2 : ∀ w, (Instr.slice 9 (.string s) (some (.int .i64 (a : Int))) (some (.int .i64 (wordTo s a : Nat))) none).run Tryz.prog w = .ok (.string (s.extract a (wordTo s a))) w := fun w => by
    rw [run_slice_string_if w _ s _ _ _ _ Tryz.underlying9, if_pos ⟨by omega, by omega⟩, if_pos ⟨by omega, by omega⟩, Int.toNat_natCast, Int.toNat_natCast]
  have HD := Lib.hid (fun pos => decode_tail s a pos ha)
  have HY := Lib.hid (fun i => @wordTo_yes s i)
  have HN := Lib.hid (fun i => @wordTo_no s i)
  have HZ := Lib.hid hz
  have HE := Lib.hid hE
  clear hz hE
  generalize hT0 : s.extract a (wordTo s a) = x at *
  clear hT0
  generalize hE0 : wordTo s a = E at *
  have HE0 := Lib.hid hE0
  clear hE0
  generalize s.extract a s.size = t at *
  go_enter Tryz.func55, Tryz.ntmps55
  go_wp2_with fail
  go_loopw [6] (fun v wr => v = .int .i64 (s.size : Nat) ∧ ∃ pos, wr.heap[w.heap.size]? = some (.stringIter t pos) ∧ pos ≤ t.size ∧ wordTo s (a + pos) = E ∧ Below w.heap.size w wr) (fun _ wr => iterLeft w.heap.size wr)
  case atStart => exact ⟨rfl, 0, World.iter_heap _ _ _, Nat.zero_le _, HE0.out, (Below.refl _ _).alloc (Nat.le_refl _) _⟩
  case round =>
    obtain ⟨rfl, pos, hk, hpos, hwt, hb⟩ := hrel
    have HK := Lib.hid hk
    have HWT := Lib.hid hwt
    have hz1 := keeps_lt hk
    clear hwt
    by_cases hp : pos < t.size
    · have hn := fun ty => Lib.run_next_any_at (P := Tryz.prog) wr w.heap.size t pos ty hk hp
      have hb2 : Below w.heap.size w (wr.iterAt w.heap.size t (pos + (Utf8.decode t pos).2)) := Lib.below_iterAt hb (by omega) _ _
      have hk2 := Lib.iterAt_heap wr w.heap.size t pos (pos + (Utf8.decode t pos).2) hk
      generalize hW : wr.iterAt w.heap.size t (pos + (Utf8.decode t pos).2) = W at *
      have hlt : a + pos < s.size := by have := HZ.out; omega
      have hcs := HD.out pos hp
      have HIW : RowKit.Hid (inWord s (a + pos) = (decide ((rd s (a + pos)).2 ≠ 0) && (letter (rd s (a + pos)).1 || digit (rd s (a + pos)).1))) := Lib.hid (by unfold inWord; rfl)
      have HYi := Lib.hid (HY.out (a + pos) hlt)
      have HNi := Lib.hid (HN.out (a + pos))
      have hrl := rd_le s (a + pos)
      have hrw := rd_width s (a + pos)
      clear hW hk hb
      have hx : ∃ r n, Utf8.decode t pos = (r, n) ∧ 1 ≤ n ∧ r ≤ 1114111 ∧ (inWord s (a + pos) = (letter (r : Int) || digit (r : Int))) ∧ (inWord s (a + pos) = true → wordTo s (a + pos + n) = E ∧ pos + n ≤ t.size) := by
        rcases hcs with ⟨h1, h2⟩ | ⟨h1, h2⟩
        · refine ⟨65533, 1, h2, by omega, by omega, ?_, ?_⟩
          · rw [HIW.out, h1]
            have e1 : letter ((65533 : Nat) : Int) = false := letter_bad
            have e2 : digit ((65533 : Nat) : Int) = false := digit_bad
            rw [e1, e2]; rfl
          · intro h; rw [HIW.out, h1] at h; simp at h
        · refine ⟨(rd s (a + pos)).1, (rd s (a + pos)).2, h2, by omega, hrl, ?_, ?_⟩
          · rw [HIW.out]; simp [h1]
          · intro h
            refine ⟨by rw [← HYi.out h]; exact HWT.out, ?_⟩
            have := HZ.out; omega
      obtain ⟨r, n, hd, hn1, hr, hiw, hnx⟩ := hx
      rw [hd] at hn hk2
      have HNX := Lib.hid hnx
      have HIW2 := Lib.hid hiw
      have HN1 := Lib.hid hn1
      clear hcs hrl hrw hd hiw hnx hn1 HIW HYi
      simp only [] at hn hk2
      have CL := Lib.hid (fun w => class_Letter (r : Int) w)
      have CD := Lib.hid (fun w => class_Digit (r : Int) (by omega) w)
      have hap : IntKind.i64.wrap ((a : Int) + pos) = (a : Int) + pos := by rw [IntKind.wrap_i64]; omega
      cases hl : letter (r : Int) with
      | true =>
        rw [hl] at CL HIW2
        have HG := Lib.hid (HNX.out (by rw [HIW2.out]; rfl))
        clear hl
        go_wp2_with fail
        refine (CL.out _).mono ?_; rintro e w3 ⟨rfl, hb3⟩
        have hk3 := keeps hb3 hk2
        have hb4 := bthen hb2 hb3
        clear hb3 hb2 hk2
        go_wp2_with fail
        go_roundw
        case rel => exact ⟨rfl, pos + n, hk3, HG.out.2, by rw [← Nat.add_assoc]; exact HG.out.1, hb4⟩
        case measure => rw [iterLeft_of hk3, iterLeft_of HK.out]; have := HG.out.2; have := HN1.out; omega
      | false =>
        rw [hl] at CL HIW2
        cases hd : digit (r : Int) with
        | true =>
          rw [hd] at CD HIW2
          have HG := Lib.hid (HNX.out (by rw [HIW2.out]; rfl))
          clear hl hd
          go_wp2_with fail
          refine (CL.out _).mono ?_; rintro e w3 ⟨rfl, hb3⟩
          have hk3 := keeps hb3 hk2
          have hb4 := bthen hb2 hb3
          clear hb3 hb2 hk2
          go_wp2_with fail
          refine (CD.out _).mono ?_; rintro e w4 ⟨rfl, rfl⟩
          go_wp2_with fail
          go_roundw
          case rel => exact ⟨rfl, pos + n, hk3, HG.out.2, by rw [← Nat.add_assoc]; exact HG.out.1, hb4⟩
          case measure => rw [iterLeft_of hk3, iterLeft_of HK.out]; have := HG.out.2; have := HN1.out; omega
        | false =>
          rw [hd] at CD HIW2
          have hEq : E = a + pos := by rw [← HWT.out]; exact HNi.out (fun h => by have := h.2; rw [HIW2.out] at this; simp at this)
          clear hl hd
          have hsl3 : ∀ w, (Instr.slice 9 (.string s) (some (.int .i64 (a : Int))) (some (.int .i64 ((a : Int) + pos))) none).run Tryz.prog w = .ok (.string x) w := fun w => by
            have := hsl2 w
            rwa [hEq, show ((a + pos : Nat) : Int) = (a : Int) + pos by omega] at this
          have HR : RowKit.Hid ((E : Int) = (a : Int) + pos) := Lib.hid (by omega)
          clear hEq hsl2
          go_wp2_with fail
          refine (CL.out _).mono ?_; rintro e w3 ⟨rfl, hb3⟩
          have HB4 := Lib.hid (bthen hb2 hb3)
          clear hb3 hb2 hk2
          go_wp2_with fail
          refine (CD.out _).mono ?_; rintro e w4 ⟨rfl, rfl⟩
          go_wp2_with fail
          refine (CW.out _).mono ?_; rintro e w5 ⟨rfl, rfl⟩
          rw [HR.out] at HQ
          generalize hwx : word x = b at *
          cases b with
          | true =>
            go_wp2_with fail
            show Q (.returned (.tuple #[_, _])) _
            exact HQ.out _ true rfl HB4.out
          | false =>
            go_wp2_with fail
            show Q (.returned (.tuple #[_, _])) _
            exact HQ.out _ false rfl HB4.out
    · have hpt : pos = t.size := by omega
      have hEs : E = s.size := by
        have := HWT.out
        have hz := HZ.out
        rw [hpt, hz, show a + (s.size - a) = s.size by omega, HN.out s.size (fun h => by omega)] at this
        exact this.symm
      have hn := fun ty => Lib.run_next_end_at (P := Tryz.prog) wr w.heap.size t pos ty hk hp
      clear hk hpt
      subst hEs
      have HB := Lib.hid hb
      clear hb
      go_wp2_with fail
      refine (CW.out _).mono ?_; rintro e w5 ⟨rfl, rfl⟩
      generalize hwx : word x = b at *
      cases b with
      | true =>
        go_wp2_with fail
        show Q (.returned (.tuple #[_, _])) _
        exact HQ.out _ true rfl HB.out
      | false =>
        go_wp2_with fail
        show Q (.returned (.tuple #[_, _])) _
        exact HQ.out _ false rfl HB.out
end Go.Proofs.YtelfobnmiphdnaaGreatDoor
