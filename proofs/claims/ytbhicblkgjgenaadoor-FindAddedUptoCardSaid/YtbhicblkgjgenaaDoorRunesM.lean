/- The program's functions of layer 1, walked. -/
import Derived.Test.YtbhicblkgjgenaaDoorCoreM
import Derived.Test.YtbhicblkgjgenaaDoorU8M
import Derived.Test.YtbhicblkgjgenaaDoorShelf
import Derived.Deep.RegionWith
namespace Go.Proofs.YtbhicblkgjgenaaDoor
open Go.RowKit

/-- The two tables of unicode/utf8 lie in this world as the program's text lays them. -/
def Tabs (w : World) : Prop := Lib.Utf8Tabs 0 1 w ∧ 0 < w.heap.size ∧ 1 < w.heap.size
theorem Tabs.below {w w' : World} (h : Tabs w) (hb : Below w.heap.size w w') : Tabs w' := by
  obtain ⟨⟨h1, h2⟩, h3, h4⟩ := h
  refine ⟨⟨fun c hc => ?_, fun i hi => ⟨?_, ?_⟩⟩, Nat.lt_of_lt_of_le h3 hb.size, Nat.lt_of_lt_of_le h4 hb.size⟩
  · rw [hb.cell (p := ⟨_, c, none⟩) h3]; exact h1 c hc
  · rw [hb.cell (p := ⟨_, 2 * i, none⟩) h4]; exact (h2 i hi).1
  · rw [hb.cell (p := ⟨_, 2 * i + 1, none⟩) h4]; exact (h2 i hi).2
theorem Tabs.drew {w : World} (h : Tabs w) : Tabs w.drew := h

theorem decode_extract (s : ByteArray) (i : Nat) : Utf8.decode (s.extract i s.size) 0 = Utf8.decode s i := by
  rw [Lib.decode_at, Lib.decode_at]
  have hz : (s.extract i s.size).size = s.size - i := by simp
  have g : ∀ k, (s.extract i s.size).get! k = s.get! (i + k) := fun k => by
    by_cases h : i + k < s.size
    · exact get!_extract s i s.size k h (Nat.le_refl _)
    · rw [get!_ge _ _ (by rw [hz]; omega), get!_ge _ _ (by omega)]
  simp only [g, hz, Nat.zero_add, Nat.add_zero, Nat.sub_zero]

theorem runes_Read (s : ByteArray) (at' : Int) (w : World) (hT : Tabs w) :
    Calls Tryd.prog 56 #[.string s, .int .i64 at'] w fun e w' => e = .returned (.tuple #[.int .i32 (rdI s at').1, .int .i64 (rdI s at').2]) ∧ Below w.heap.size w w' := by
  by_cases hi : 0 ≤ at' ∧ at' < s.size
  · obtain ⟨i, rfl⟩ := Int.eq_ofNat_of_zero_le hi.1
    have hi2 : i < s.size := by omega
    clear hi
    have C : ∀ w, Tabs w → _ := fun w hT => Tryd.utf8_DecodeRuneInString (s.extract i s.size) w hT.1
    have hd : Lib.decodeGo (s.extract i s.size) = Utf8.decode s i := by
      unfold Lib.decodeGo
      rw [if_neg (by simp; omega), decode_extract]
    rw [hd] at C
    have C' := Lib.hid C
    have hr := rd_of_decode hi2
    rw [← rdI_nat] at hr
    clear C hd
    generalize Utf8.decode s i = d at *
    obtain ⟨d1, d2⟩ := d
    have HR := Lib.hid hr
    clear hr
    go_enter Tryd.func56, Tryd.ntmps56
    go_wp2_with (go_at_call 64; refine (C'.out _ hT).mono ?_; rintro e w' ⟨rfl, hb'⟩)
    all_goals go_ret2
    all_goals (refine ⟨ret_ints ?_ ?_, hb'⟩ <;> (have hr := HR.out; rw [hr]; clear HR; split <;> first | rfl | omega))
  · have HR := Lib.hid (show rdI s at' = (0, 0) by
      by_cases h : at' < 0
      · exact rdI_neg h
      · obtain ⟨i, rfl⟩ := Int.eq_ofNat_of_zero_le (by omega : 0 ≤ at')
        rw [rdI_nat, rd_out (by omega)])
    by_cases hn : at' < 0
    · clear hi
      go_enter Tryd.func56, Tryd.ntmps56
      go_wp2_with fail
      go_ret2
      exact ⟨ret_ints (by rw [HR.out]; rfl) (by rw [HR.out]; rfl), Below.refl _ _⟩
    · have hge : s.size ≤ at' := by omega
      clear hi
      go_enter Tryd.func56, Tryd.ntmps56
      go_wp2_with fail
      go_ret2
      exact ⟨ret_ints (by rw [HR.out]; rfl) (by rw [HR.out]; rfl), Below.refl _ _⟩

theorem runes_Form (r : Int) (w : World) :
    Calls Tryd.prog 105 #[.int .i32 r] w fun e w' => e = .returned (.string (form r)) ∧ w = w' := by
  have C : ∀ w, _ := fun w => Tryd.utf8_ValidRune r w
  rw [validRune_may] at C
  cases hm : may r
  · rw [hm] at C
    have C' := Lib.hid C
    have HF := Lib.hid (form_none hm)
    clear C hm
    go_enter Tryd.func105, Tryd.ntmps105
    go_wp2_with (go_at_call 109; refine (C'.out _).mono ?_; rintro e w' ⟨rfl, rfl⟩)
    go_ret
    exact ⟨ret_str (by rw [HF.out]; rfl), rfl⟩
  · rw [hm] at C
    have C' := Lib.hid C
    have HF := Lib.hid (encode_form hm)
    clear C hm
    go_enter Tryd.func105, Tryd.ntmps105
    go_wp2_with (go_at_call 109; refine (C'.out _).mono ?_; rintro e w' ⟨rfl, rfl⟩)
    go_ret
    exact ⟨ret_str (by rw [HF.out]), rfl⟩

theorem scan_next {s : ByteArray} {i : Nat} (h : i < s.size) (h0 : rd s i ≠ (0, 0)) : (scan s i) = ((rd s i).1 :: (scan s (i + (Utf8.decode s i).2)).1, (scan s (i + (Utf8.decode s i).2)).2) := by
  rcases rd_cases s i h with ⟨h1, _⟩ | ⟨h1, _, _, _, _, h2⟩
  · exact absurd h1 h0
  · rw [scan_step h (by omega), h2]

set_option maxHeartbeats 1000000 in
theorem runes_Bad (s : ByteArray) (w : World) (hT : Tabs w) :
    Calls Tryd.prog 45 #[.string s] w fun e w' => e = .returned (.int .i64 (bad s)) ∧ Below w.heap.size w w' := by
  go_enter Tryd.func45, Tryd.ntmps45
  go_wp2_with fail
  go_loopw [] (fun wr => ∃ pos, wr.heap[w.heap.size]? = some (.stringIter s pos) ∧ pos ≤ s.size ∧ bad s = badZ (scan s pos).2 ∧ Below w.heap.size w wr) (fun wr => iterLeft w.heap.size wr)
  case atStart => exact ⟨0, World.iter_heap _ _ _, Nat.zero_le _, by unfold bad; rfl, (Below.refl _ _).alloc (Nat.le_refl _) _⟩
  case round =>
    obtain ⟨pos, hk, hpos, hbad, hb⟩ := hrel
    have HB := Lib.hid hbad
    have HK := Lib.hid hk
    have HT := Lib.hid (hT.below hb)
    have hz := keeps_lt hk
    clear hbad
    by_cases hp : pos < s.size
    · have hn := fun ty => Lib.run_next_any_at (P := Tryd.prog) wr w.heap.size s pos ty hk hp
      have hb2 : Below w.heap.size w (wr.iterAt w.heap.size s (pos + (Utf8.decode s pos).2)) := Lib.below_iterAt hb (Nat.le_refl _) _ _
      have hk2 := Lib.iterAt_heap wr w.heap.size s pos (pos + (Utf8.decode s pos).2) hk
      have hT2 := hT.below hb2
      generalize hW : wr.iterAt w.heap.size s (pos + (Utf8.decode s pos).2) = W at *
      clear hk hW
      rcases rd_cases s pos hp with ⟨h1, h2⟩ | ⟨h1, h2, h3, h4, h5, h6⟩
      · rw [h2] at hn
        simp only [] at hn
        have C := fun w hT => runes_Read s pos w hT
        rw [rdI_nat, h1] at C
        have C' := Lib.hid C
        have HR := Lib.hid (scan_bad hp (by rw [h1]))
        clear h1 h2 C
        go_wp2_with (go_at_call 56; refine (C'.out _ hT2).mono ?_; rintro e w' ⟨rfl, hb'⟩)
        go_ret
        exact ⟨ret_int (by rw [HB.out, HR.out]; rfl), hb2.trans (hb'.mono hb2.size)⟩
      · have HR := Lib.hid (scan_step hp (by omega))
        rw [h6] at hn hk2
        have C := fun w hT => runes_Read s pos w hT
        rw [rdI_nat] at C
        generalize rd s pos = d at *
        obtain ⟨d1, d2⟩ := d
        simp only [] at *
        have C' := Lib.hid C
        have h8 : ((d2 : Int) == 0) = false := by simp; omega
        have hp2 := Lib.hid h3
        clear C h4 h5 h6 h3
        by_cases h9 : d1 = 65533
        · subst h9
          go_wp2_with (go_at_call 56; refine (C'.out _ hT2).mono ?_; rintro e w' ⟨rfl, hb'⟩)
          have hb3 := hb2.trans (hb'.mono hb2.size)
          have hk3 := keeps hb' hk2
          go_roundw
          case rel => exact ⟨pos + d2, hk3, hp2.out, by rw [HB.out, HR.out], hb3⟩
          case measure => rw [iterLeft_of hk3, iterLeft_of HK.out]; have := hp2.out; omega
        · have h10 : ((d1 : Int) != 65533) = true := by rw [bne_iff_ne]; omega
          have H9 := Lib.hid h9
          clear h9
          go_wp2_with fail
          go_roundw
          case rel => exact ⟨pos + d2, hk2, hp2.out, by rw [HB.out, HR.out], hb2⟩
          case measure => rw [iterLeft_of hk2, iterLeft_of HK.out]; have := hp2.out; omega
    · have hn := fun ty => Lib.run_next_end_at (P := Tryd.prog) wr w.heap.size s pos ty hk hp
      have HR := Lib.hid (scan_end (s := s) (i := pos) (by omega))
      clear hk
      go_wp2_with fail
      go_ret
      exact ⟨ret_int (by rw [HB.out, HR.out]; rfl), hb⟩

theorem info_i32 : (Tryd.prog.info? 21).map (fun i => (i.zero, i.size, i.bytes)) = some (some (.int .i32 0), 1, 4) := by kernel_rfl
theorem info_i64 : (Tryd.prog.info? 2).map (fun i => (i.zero, i.size, i.bytes)) = some (some (.int .i64 0), 1, 8) := by kernel_rfl
def runeVals (l : List Nat) : List Value := l.map fun (x : Nat) => Value.int .i32 (x : Int)
def longVals (l : List Nat) : List Value := l.map fun (x : Nat) => Value.int .i64 (x : Int)

theorem bad_good {s : ByteArray} {i : Nat} (h : i < s.size) (hn : (scan s i).2 = none) : rd s i ≠ (0, 0) := by
  intro h0
  rw [scan_bad h (by rw [h0])] at hn
  cases hn
end Go.Proofs.YtbhicblkgjgenaaDoor
