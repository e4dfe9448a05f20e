/- The program's functions of layer 1, walked. -/
import Derived.Test.YtbhicblkgjgenaaGreatDoorCoreM
import Derived.Test.YtbhicblkgjgenaaGreatDoorU8M
import Derived.Test.YtbhicblkgjgenaaGreatDoorShelf
import Derived.Deep.RegionWith
import Derived.Test.YtbhicblkgjgenaaGreatDoorRef01M
namespace Go.Proofs.YtbhicblkgjgenaaGreatDoor
open Go.RowKit

/-- The two tables of unicode/utf8 lie in this world as the program's text lays them. -/
def Tabs (w : World) : Prop := Lib.Utf8Tabs 0 1 w ∧ 0 < w.heap.size ∧ 1 < w.heap.size
theorem Tabs.below {w w' : World} (h : Tabs w) (hb : Below w.heap.size w w') : Tabs w' := by
  obtain ⟨⟨h1, h2⟩, h3, h4⟩ := h
  refine ⟨⟨fun c hc => ?_, fun i hi => ⟨?_, ?_⟩⟩, Nat.lt_of_lt_of_le h3 hb.size, Nat.lt_of_lt_of_le h4 hb.size⟩
  · rw [hb.cell (p := ⟨_, c, none⟩) h3]; exact h1 c hc
  · rw [hb.cell (p := ⟨_, 2 * i, none⟩) h4]; exact (h2 i hi).1
  · rw [hb.cell (p := ⟨_, 2 * i + 1, none⟩) h4]; exact (h2 i hi).2
theorem Tabs.drew {w : World} (h : Tabs w) : Tabs w.drew := h

theorem decode_extract (s : ByteArray) (i : Nat) : Utf8.decode (s.extract i s.size) 0 = Utf8.decode s i := by
  rw [Lib.decode_at, Lib.decode_at]
  have hz : (s.extract i s.size).size = s.size - i := by simp
  have g : ∀ k, (s.extract i s.size).get! k = s.get! (i + k) := fun k => by
    by_cases h : i + k < s.size
    · exact get!_extract s i s.size k h (Nat.le_refl _)
    · rw [get!_ge _ _ (by rw [hz]; omega), get!_ge _ _ (by omega)]
  simp only [g, hz, Nat.zero_add, Nat.add_zero, Nat.sub_zero]

theorem runes_Read (s : ByteArray) (at' : Int) (w : World) (hT : Tabs w) :
    Calls Tryz.prog 91 #[.string s, .int .i64 at'] w fun e w' => e = .returned (.tuple #[.int .i32 (rdI s at').1, .int .i64 (rdI s at').2]) ∧ Below w.heap.size w w' := by
  by_cases hi : 0 ≤ at' ∧ at' < s.size
  · obtain ⟨i, rfl⟩ := Int.eq_ofNat_of_zero_le hi.1
    have hi2 : i < s.size := by omega
    clear hi
    have C : ∀ w, Tabs w → _ := fun w hT => Tryz.utf8_DecodeRuneInString (s.extract i s.size) w hT.1
    have hd : Lib.decodeGo (s.extract i s.size) = Utf8.decode s i := by
      unfold Lib.decodeGo
      rw [if_neg (by simp; omega), decode_extract]
    rw [hd] at C
    have C' := Lib.hid C
    have hr := rd_of_decode hi2
    rw [← rdI_nat] at hr
    clear C hd
    generalize Utf8.decode s i = d at *
    obtain ⟨d1, d2⟩ := d
    have HR := Lib.hid hr
    clear hr
    go_enter Tryz.func91, Tryz.ntmps91
    go_wp2_with (go_at_call 108; refine (C'.out _ hT).mono ?_; rintro e w' ⟨rfl, hb'⟩)
    all_goals go_ret2
    all_goals (refine ⟨ret_ints ?_ ?_, hb'⟩ <;> (have hr := HR.out; rw [hr]; clear HR; split <;> first | rfl | omega))
  · have HR := Lib.hid (show rdI s at' = (0, 0) by
      by_cases h : at' < 0
      · exact rdI_neg h
      · obtain ⟨i, rfl⟩ := Int.eq_ofNat_of_zero_le (by omega : 0 ≤ at')
        rw [rdI_nat, rd_out (by omega)])
    by_cases hn : at' < 0
    · clear hi
      go_enter Tryz.func91, Tryz.ntmps91
      go_wp2_with fail
      go_ret2
      exact ⟨ret_ints (by rw [HR.out]; rfl) (by rw [HR.out]; rfl), Below.refl _ _⟩
    · have hge : s.size ≤ at' := by omega
      clear hi
      go_enter Tryz.func91, Tryz.ntmps91
      go_wp2_with fail
      go_ret2
      exact ⟨ret_ints (by rw [HR.out]; rfl) (by rw [HR.out]; rfl), Below.refl _ _⟩

theorem runes_Form (r : Int) (w : World) :
    Calls Tryz.prog 161 #[.int .i32 r] w fun e w' => e = .returned (.string (form r)) ∧ w = w' := by
  have C : ∀ w, _ := fun w => Tryz.utf8_ValidRune r w
  rw [validRune_may] at C
  cases hm : may r
  · rw [hm] at C
    have C' := Lib.hid C
    have HF := Lib.hid (form_none hm)
    clear C hm
    go_enter Tryz.func161, Tryz.ntmps161
    go_wp2_with (go_at_call 165; refine (C'.out _).mono ?_; rintro e w' ⟨rfl, rfl⟩)
    go_ret
    exact ⟨ret_str (by rw [HF.out]; rfl), rfl⟩
  · rw [hm] at C
    have C' := Lib.hid C
    have HF := Lib.hid (encode_form hm)
    clear C hm
    go_enter Tryz.func161, Tryz.ntmps161
    go_wp2_with (go_at_call 165; refine (C'.out _).mono ?_; rintro e w' ⟨rfl, rfl⟩)
    go_ret
    exact ⟨ret_str (by rw [HF.out]), rfl⟩

theorem scan_next {s : ByteArray} {i : Nat} (h : i < s.size) (h0 : rd s i ≠ (0, 0)) : (scan s i) = ((rd s i).1 :: (scan s (i + (Utf8.decode s i).2)).1, (scan s (i + (Utf8.decode s i).2)).2) := by
  rcases rd_cases s i h with ⟨h1, _⟩ | ⟨h1, _, _, _, _, h2⟩
  · exact absurd h1 h0
  · rw [scan_step h (by omega), h2]

set_option maxHeartbeats 1000000 in
theorem runes_Bad (s : ByteArray) (w : World) (hT : Tabs w) :
    Calls Tryz.prog 67 #[.string s] w fun e w' => e = .returned (.int .i64 (bad s)) ∧ Below w.heap.size w w' := by
  go_enter Tryz.func67, Tryz.ntmps67
  go_wp2_with fail
  go_loopw [] (fun wr => ∃ pos, wr.heap[w.heap.size]? = some (.stringIter s pos) ∧ pos ≤ s.size ∧ bad s = badZ (scan s pos).2 ∧ Below w.heap.size w wr) (fun wr => iterLeft w.heap.size wr)
  case atStart => exact ⟨0, World.iter_heap _ _ _, Nat.zero_le _, by unfold bad; rfl, (Below.refl _ _).alloc (Nat.le_refl _) _⟩
  case round =>
    obtain ⟨pos, hk, hpos, hbad, hb⟩ := hrel
    have HB := Lib.hid hbad
    have HK := Lib.hid hk
    have HT := Lib.hid (hT.below hb)
    have hz := keeps_lt hk
    clear hbad
    by_cases hp : pos < s.size
    · have hn := fun ty => Lib.run_next_any_at (P := Tryz.prog) wr w.heap.size s pos ty hk hp
      have hb2 : Below w.heap.size w (wr.iterAt w.heap.size s (pos + (Utf8.decode s pos).2)) := Lib.below_iterAt hb (Nat.le_refl _) _ _
      have hk2 := Lib.iterAt_heap wr w.heap.size s pos (pos + (Utf8.decode s pos).2) hk
      have hT2 := hT.below hb2
      generalize hW : wr.iterAt w.heap.size s (pos + (Utf8.decode s pos).2) = W at *
      clear hk hW
      rcases rd_cases s pos hp with ⟨h1, h2⟩ | ⟨h1, h2, h3, h4, h5, h6⟩
      · rw [h2] at hn
        simp only [] at hn
        have C := fun w hT => runes_Read s pos w hT
        rw [rdI_nat, h1] at C
        have C' := Lib.hid C
        have HR := Lib.hid (scan_bad hp (by rw [h1]))
        clear h1 h2 C
        go_wp2_with (go_at_call 91; refine (C'.out _ hT2).mono ?_; rintro e w' ⟨rfl, hb'⟩)
        go_ret
        exact ⟨ret_int (by rw [HB.out, HR.out]; rfl), hb2.trans (hb'.mono hb2.size)⟩
      · have HR := Lib.hid (scan_step hp (by omega))
        rw [h6] at hn hk2
        have C := fun w hT => runes_Read s pos w hT
        rw [rdI_nat] at C
        generalize rd s pos = d at *
        obtain ⟨d1, d2⟩ := d
        simp only [] at *
        have C' := Lib.hid C
        have h8 : ((d2 : Int) == 0) = false := by simp; omega
        have hp2 := Lib.hid h3
        clear C h4 h5 h6 h3
        by_cases h9 : d1 = 65533
        · subst h9
          go_wp2_with (go_at_call 91; refine (C'.out _ hT2).mono ?_; rintro e w' ⟨rfl, hb'⟩)
          have hb3 := hb2.trans (hb'.mono hb2.size)
          have hk3 := keeps hb' hk2
          go_roundw
          case rel => exact ⟨pos + d2, hk3, hp2.out, by rw [HB.out, HR.out], hb3⟩
          case measure => rw [iterLeft_of hk3, iterLeft_of HK.out]; have := hp2.out; omega
        · have h10 : ((d1 : Int) != 65533) = true := by rw [bne_iff_ne]; omega
          have H9 := Lib.hid h9
          clear h9
          go_wp2_with fail
          go_roundw
          case rel => exact ⟨pos + d2, hk2, hp2.out, by rw [HB.out, HR.out], hb2⟩
          case measure => rw [iterLeft_of hk2, iterLeft_of HK.out]; have := hp2.out; omega
    · have hn := fun ty => Lib.run_next_end_at (P := Tryz.prog) wr w.heap.size s pos ty hk hp
      have HR := Lib.hid (scan_end (s := s) (i := pos) (by omega))
      clear hk
      go_wp2_with fail
      go_ret
      exact ⟨ret_int (by rw [HB.out, HR.out]; rfl), hb⟩

theorem info_i32 : (Tryz.prog.info? 21).map (fun i => (i.zero, i.size, i.bytes)) = some (some (.int .i32 0), 1, 4) := by kernel_rfl
theorem info_i64 : (Tryz.prog.info? 2).map (fun i => (i.zero, i.size, i.bytes)) = some (some (.int .i64 0), 1, 8) := by kernel_rfl
def runeVals (l : List Nat) : List Value := l.map fun (x : Nat) => Value.int .i32 (x : Int)
def longVals (l : List Nat) : List Value := l.map fun (x : Nat) => Value.int .i64 (x : Int)

theorem bad_good {s : ByteArray} {i : Nat} (h : i < s.size) (hn : (scan s i).2 = none) : rd s i ≠ (0, 0) := by
  intro h0
  rw [scan_bad h (by rw [h0])] at hn
  cases hn
end Go.Proofs.YtbhicblkgjgenaaGreatDoor
namespace Go.Proofs.YtbhicblkgjgenaaGreatDoor
open Go.RowKit

theorem rd_bnd (s : ByteArray) (i : Nat) (h : i < s.size) : i + (rd s i).2 ≤ s.size := by
  have := rd_width s i; omega
set_option maxHeartbeats 1000000 in
theorem ref_All_bad (s : ByteArray) (w : World) (hs : s.size ≤ 1099511627775) (hbad : 0 ≤ bad s) :
    Calls Tryz.prog 75 #[.string s] w fun e w' => e = .returned (.tuple #[.slice none 0 0, .bool false]) ∧ Below w.heap.size w w' := by
  have HX := Lib.hid (show (scan s 0).2 ≠ none from fun h => by have := (bad_neg s).2 h; omega)
  have HL := Lib.hid (scan_length s 0)
  go_enter Tryz.func75, Tryz.ntmps75
  go_wp2_with fail
  go_loopw [4, 5] (fun v a wr => ∃ pos : Nat, a = .int .i64 pos ∧ pos ≤ s.size ∧ ∃ l : List Nat, l ++ (scan s pos).1 = (scan s 0).1 ∧ (scan s pos).2 = (scan s 0).2 ∧ Below w.heap.size w wr ∧ wr.ownsRow w.heap.size 2 1 v l.length (longVals l)) (fun _ a _ => s.size - (intOf a).toNat)
  case atStart => exact ⟨0, rfl, Nat.zero_le _, [], rfl, rfl, Below.refl _ _, World.ownsRow_nil _ _ _ _⟩
  case round =>
    obtain ⟨pos, rfl, hpos, l, hl, hnn, hb, hown⟩ := hrel
    have HN := Lib.hid hnn
    have HLL := Lib.hid hl
    have hll : l.length ≤ 1099511627775 := by
      have h1 := HL.out; have h2 := congrArg List.length hl; rw [List.length_append] at h2; omega
    clear hl hnn
    by_cases hp : pos < s.size
    · have C := fun w => ref_Read s pos w (by omega)
      rw [rdI_nat] at C
      by_cases h0 : (rd s pos).2 = 0
      · have h1 : (((rd s pos).2 : Int) == 0) = true := by simp [h0]
        generalize rd s pos = d at *
        obtain ⟨d1, d2⟩ := d
        have C' := Lib.hid C
        clear C h0
        go_wp2_with (go_at_call 98; refine (C'.out _).mono ?_; rintro e w' ⟨rfl, hb'⟩)
        go_ret2
        exact ⟨rfl, hb.trans (hb'.mono hb.size)⟩
      · have HR := Lib.hid (scan_step hp h0)
        have hb2 := rd_bnd s pos hp
        have h1 : (((rd s pos).2 : Int) == 0) = false := by simp [h0]
        have h2 : 0 < (rd s pos).2 := by omega
        generalize rd s pos = d at *
        obtain ⟨d1, d2⟩ := d
        have C' := Lib.hid C
        clear C h0
        simp only [] at *
        go_wp2_with fail
        refine (C'.out _).mono ?_
        rintro e w' ⟨rfl, hb'⟩
        have hown2 := owns_below hown hb'
        have hb3 := hb.trans (hb'.mono hb.size)
        clear hown hb'
        go_wp2_with (at_builtin; refine wpList_append_lit w' #[.int .i64 (d1 : Int)] _ rfl _ _ 112 2 rfl Tryz.underlying112 w.heap.size info_i64 rfl (by decide) _ _ _ rfl hown2 1 1 rfl rfl (by decide) ?_ ?_ ?_ ?_ ?_)
        · rfl
        · omega
        · omega
        · exact hb3.size
        · intro v' w' hown3 hgr _
          have hb4 := grown_below hb3 hb3.size hown2 hgr
          clear hown2 hgr hb3
          go_wp2_with fail
          go_roundw
          case rel => exact ⟨pos + d2, by go_num, hb2, l ++ [d1], by rw [← HLL.out, HR.out]; simp, by rw [← HN.out, HR.out], hb4, by simpa [longVals] using hown3⟩
          case measure => simp [intOf]; omega
    · exfalso
      exact HX.out (by rw [← HN.out, scan_end (by omega)])
set_option maxHeartbeats 1000000 in
theorem ref_All (s : ByteArray) (w : World) (hs : s.size ≤ 1099511627775) (hbad : bad s < 0) :
    Calls Tryz.prog 75 #[.string s] w fun e w' => ∃ v, e = .returned (.tuple #[v, .bool true]) ∧ Below w.heap.size w w' ∧ w'.ownsRow w.heap.size 2 1 v (chars s).length (longVals (chars s)) := by
  have HX := Lib.hid ((bad_neg s).1 hbad)
  have HL := Lib.hid (scan_length s 0)
  have HC := Lib.hid (show chars s = (scan s 0).1 by unfold chars; rfl)
  go_enter Tryz.func75, Tryz.ntmps75
  go_wp2_with fail
  go_loopw [4, 5] (fun v a wr => ∃ pos : Nat, a = .int .i64 pos ∧ pos ≤ s.size ∧ ∃ l : List Nat, l ++ (scan s pos).1 = (scan s 0).1 ∧ (scan s pos).2 = (scan s 0).2 ∧ Below w.heap.size w wr ∧ wr.ownsRow w.heap.size 2 1 v l.length (longVals l)) (fun _ a _ => s.size - (intOf a).toNat)
  case atStart => exact ⟨0, rfl, Nat.zero_le _, [], rfl, rfl, Below.refl _ _, World.ownsRow_nil _ _ _ _⟩
  case round =>
    obtain ⟨pos, rfl, hpos, l, hl, hnn, hb, hown⟩ := hrel
    have HN := Lib.hid hnn
    have HLL := Lib.hid hl
    have hll : l.length ≤ 1099511627775 := by
      have h1 := HL.out; have h2 := congrArg List.length hl; rw [List.length_append] at h2; omega
    clear hl hnn
    by_cases hp : pos < s.size
    · have C := fun w => ref_Read s pos w (by omega)
      rw [rdI_nat] at C
      by_cases h0 : (rd s pos).2 = 0
      · exfalso
        have h1 := HN.out
        rw [scan_bad hp h0, HX.out] at h1
        cases h1
      · have HR := Lib.hid (scan_step hp h0)
        have hb2 := rd_bnd s pos hp
        have h1 : (((rd s pos).2 : Int) == 0) = false := by simp [h0]
        have h2 : 0 < (rd s pos).2 := by omega
        generalize rd s pos = d at *
        obtain ⟨d1, d2⟩ := d
        have C' := Lib.hid C
        clear C h0
        simp only [] at *
        go_wp2_with fail
        refine (C'.out _).mono ?_
        rintro e w' ⟨rfl, hb'⟩
        have hown2 := owns_below hown hb'
        have hb3 := hb.trans (hb'.mono hb.size)
        clear hown hb'
        go_wp2_with (at_builtin; refine wpList_append_lit w' #[.int .i64 (d1 : Int)] _ rfl _ _ 112 2 rfl Tryz.underlying112 w.heap.size info_i64 rfl (by decide) _ _ _ rfl hown2 1 1 rfl rfl (by decide) ?_ ?_ ?_ ?_ ?_)
        · rfl
        · omega
        · omega
        · exact hb3.size
        · intro v' w' hown3 hgr _
          have hb4 := grown_below hb3 hb3.size hown2 hgr
          clear hown2 hgr hb3
          go_wp2_with fail
          go_roundw
          case rel => exact ⟨pos + d2, by go_num, hb2, l ++ [d1], by rw [← HLL.out, HR.out]; simp, by rw [← HN.out, HR.out], hb4, by simpa [longVals] using hown3⟩
          case measure => simp [intOf]; omega
    · have e1 : l = chars s := by
        have h1 := HLL.out
        rw [scan_end (by omega), ← HC.out] at h1
        simpa using h1
      go_wp2_with fail
      go_ret2
      exact ⟨_, rfl, hb, by rw [← e1]; exact hown⟩
end Go.Proofs.YtbhicblkgjgenaaGreatDoor
