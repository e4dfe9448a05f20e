/- The statement RunesBack, walked: the call returns true. -/
import Derived.Test.YtfgchnhjboehpaaDoorRunesJoinsWalk
import Derived.Test.YtfgchnhjboehpaaDoorRunesBehindWalk
namespace Go.Proofs.YtfgchnhjboehpaaDoor
open Go.RowKit

theorem joinS_size (l : List Int) : (joinS l).size ≤ 4 * l.length := by
  unfold joinS
  split
  · unfold forms; rw [strOfNums_size]; exact formsZ_length l
  · show 0 ≤ _; omega
theorem back_scan {l : List Int} (h : allMay l = true) : bad (joinS l) < 0 ∧ ints (chars (joinS l)) = l := by
  have hs := scan_forms l h
  rw [joinS_yes h]
  unfold forms formsZ
  constructor
  · rw [bad_neg, hs]
  · unfold chars
    rw [hs]
    unfold ints
    rw [List.map_map]
    have : ∀ x ∈ l, ((fun (n : Nat) => (n : Int)) ∘ Int.toNat) x = x := fun x hx => by
      have hm := (may_iff x).1 (List.all_eq_true.1 h x hx)
      simp only [Function.comp]; omega
    rw [List.map_congr_left this, List.map_id']
theorem back_join {s : ByteArray} (h : bad s < 0) : allMay (ints (chars s)) = true ∧ joinS (ints (chars s)) = s := by
  have hn := (bad_neg s).1 h
  have ha : allMay (ints (chars s)) = true := by
    unfold allMay ints chars
    rw [List.all_eq_true]
    intro x hx
    obtain ⟨n, hn, rfl⟩ := List.mem_map.1 hx
    exact scan_may s 0 n hn
  refine ⟨ha, ?_⟩
  rw [joinS_yes ha]
  unfold forms formsZ ints chars
  rw [forms_scan s 0 (Nat.zero_le _) hn, ByteArray.extract_zero_size]
def Ret (P : Prop) (w : World) (e : Ending) (w' : World) : Prop := P ∧ e = .returned (.bool true) ∧ Below w.heap.size w w'

set_option maxRecDepth 100000 in
set_option maxHeartbeats 4000000 in
theorem RunesBack_walk (w : World) (v : Value) (l : List Int) (hv : RowInts w v .i32 l) (hwf : ∀ n ∈ l, (Lit.int .i32 n).wf = true) (hn : l.length ≤ 1048576) (s : ByteArray) (hs : s.size ≤ 1048576) (hT : Tabs w) :
    Calls Tryd.prog 8 #[v, .string s] w fun e w' => e = .returned (.bool true) ∧ Below w.heap.size w w' := by
  have H32 := Lib.hid (i32s hwf)
  have HV := Lib.hid hv
  have hT0 := Lib.hid hT
  obtain ⟨a, cap, rfl, hc, hcell⟩ := hv.open'
  have HC := Lib.hid hcell
  clear hwf hv hcell
  go_enter Tryd.func8, Tryd.ntmps8
  go_wp2_with fail
  refine (law01_fixed _ hT).mono ?_; rintro e w1 ⟨rfl, hb1⟩
  have h0 := owns_empty w1 21 1
  have hrow : Row (w1.alloc (Obj.cells #[] 21)) (.slice a l.length cap) l.length 1 (l.map (Value.int .i32)) := Row.below HV.out (hb1.alloc hb1.size _)
  go_wp2_with (at_builtin; refine wpList_append_row rfl _ _ 32 21 rfl Tryd.underlying32 w1.heap.size info_i32 rfl (by decide) _ _ _ rfl h0 _ l.length (l.map (Value.int .i32)) rfl hrow (i32_oneCell l) ?_ ?_ ?_ ?_)
  · omega
  · omega
  · simp
  intro v' w2 hown hgr
  have hb2 : Below w.heap.size w w2 := bthen hb1 (((Below.refl _ w1).alloc (Nat.le_refl _) _).grown hgr (by simp) (fun k hk => (h0.lt k hk).1))
  have R1 := Lib.hid (RowInts.of_owns hown)
  clear hown hgr h0 hrow
  have hjs := joinS_size l
  have hback := @back_scan l
  have HJ : Hid (allMay l = true → bad (joinS l) < 0 ∧ ints (chars (joinS l)) = l) := hback
  clear hback
  have C1 := Lib.hid (fun w hr => runes_Join v' l w hr H32.out (by omega))
  generalize joinS l = t at *
  go_wp2_with fail
  refine (C1.out _ R1.out).mono ?_; rintro e w3 ⟨rfl, hb3⟩
  have hb13 := bthen hb2 hb3
  clear hb2 hb3
  cases hA : allMay l
  · clear HJ hA
    by_cases hbad : bad s < 0
    · have hbm : bad s = -1 := by have := bad_range s; omega
      have hlc := chars_length s
      have CA := Lib.hid (fun w hT => runes_All s w hT hbad (by omega))
      have CB := Lib.hid (fun w hT => runes_Bad s w hT)
      have CJ := Lib.hid (fun v w hr => runes_Join v (ints (chars s)) w hr (chars_32 s) (by rw [ints_length]; omega))
      rw [runeVals_ints] at CA
      rw [(back_join hbad).1, (back_join hbad).2] at CJ
      rw [hbm] at CB
      clear hbad hbm
      go_wp2_with fail
      refine (CA.out _ (hT.below hb13)).mono ?_; rintro e x1 ⟨vs, rfl, gb1, gown⟩
      have hb91 := bthen hb13 gb1
      have RS := Lib.hid (RowInts.of_owns gown)
      clear gown
      go_wp2_with fail
      refine (CJ.out _ _ RS.out).mono ?_; rintro e x2 ⟨rfl, gb2⟩
      have hb92 := bthen hb91 gb2
      go_wp2_with fail
      refine (CB.out _ (hT.below hb92)).mono ?_; rintro e x3 ⟨rfl, gb3⟩
      have hb93 := bthen hb92 gb3
      go_wp2_with fail
      go_ret
      exact ⟨rfl, hb93⟩
    · have hbad2 : 0 ≤ bad s := by omega
      have CA := Lib.hid (fun w hT => runes_All_bad s w hT hbad2)
      have CB := Lib.hid (fun w hT => runes_Bad s w hT)
      generalize bad s = bs at *
      clear hbad
      go_wp2_with fail
      refine (CA.out _ (hT.below hb13)).mono ?_; rintro e x1 ⟨rfl, gb1⟩
      have hb91 := bthen hb13 gb1
      go_wp2_with fail
      refine (CB.out _ (hT.below hb91)).mono ?_; rintro e x2 ⟨rfl, gb2⟩
      have hb92 := bthen hb91 gb2
      go_wp2_with fail
      go_ret
      exact ⟨rfl, hb92⟩
  · obtain ⟨ht1, ht2⟩ := HJ.out hA
    have C2 := Lib.hid (fun w hT => runes_All t w hT ht1 (by omega))
    rw [runeVals_ints, ht2] at C2
    have hlen : (chars t).length = l.length := by rw [← ints_length, ht2]
    rw [hlen] at C2
    clear ht1 ht2 hA hlen
    go_wp2_with fail
    refine (C2.out _ (hT.below hb13)).mono ?_; rintro e w4 ⟨v4, rfl, hb4, hown4⟩
    have hb14 := bthen hb13 hb4
    have R4 := Lib.hid (RowInts.of_owns hown4)
    clear hown4
    obtain ⟨a4, cap4, rfl, hc4, hcell4⟩ := R4.out.open'
    have HC4 := Lib.hid hcell4
    clear hcell4
    go_wp2_with fail
    go_loopw [9] (fun i wr => ∃ k : Nat, k ≤ l.length ∧ i = .int .i64 k ∧ Below w4.heap.size w4 wr) (fun i _ => l.length - (intOf i).toNat)
    case atStart => exact ⟨0, Nat.zero_le _, rfl, Below.refl _ _⟩
    case round =>
      obtain ⟨k, hk, rfl, hb⟩ := hrel
      have hb15 := bthen hb14 hb
      by_cases hlt : k < l.length
      · obtain ⟨b, off, rfl, hbl, hcl⟩ := HC.out (by omega)
        obtain ⟨b4, off4, rfl, hbl4, hcl4⟩ := HC4.out (by omega)
        have h1 := (hb15.cell (p := ⟨b, off + k, none⟩) hbl).trans (hcl k hlt)
        have h4 := (hb.cell (p := ⟨b4, off4 + k, none⟩) hbl4).trans (hcl4 k hlt)
        have hlk : (k : Int) < l.length := by omega
        clear hcl hcl4
        generalize l[k] = x at *
        go_wp2_with fail
        go_quiet (fail)
        go_wp2_with fail
        go_roundw
        case rel => exact ⟨k + 1, by omega, by go_num, below_drewN hb _⟩
        case measure => simp [intOf]; omega
      · have hlk : (l.length : Int) ≤ k := by omega
        by_cases hbad : bad s < 0
        · have hbm : bad s = -1 := by have := bad_range s; omega
          have hlc := chars_length s
          have CA := Lib.hid (fun w hT => runes_All s w hT hbad (by omega))
          have CB := Lib.hid (fun w hT => runes_Bad s w hT)
          have CJ := Lib.hid (fun v w hr => runes_Join v (ints (chars s)) w hr (chars_32 s) (by rw [ints_length]; omega))
          rw [runeVals_ints] at CA
          rw [(back_join hbad).1, (back_join hbad).2] at CJ
          rw [hbm] at CB
          clear hbad hbm
          go_wp2_with fail
          refine (CA.out _ (hT.below hb15)).mono ?_; rintro e x1 ⟨vs, rfl, gb1, gown⟩
          have hb91 := bthen hb15 gb1
          have RS := Lib.hid (RowInts.of_owns gown)
          clear gown
          go_wp2_with fail
          refine (CJ.out _ _ RS.out).mono ?_; rintro e x2 ⟨rfl, gb2⟩
          have hb92 := bthen hb91 gb2
          go_wp2_with fail
          refine (CB.out _ (hT.below hb92)).mono ?_; rintro e x3 ⟨rfl, gb3⟩
          have hb93 := bthen hb92 gb3
          go_wp2_with fail
          go_ret
          exact ⟨rfl, hb93⟩
        · have hbad2 : 0 ≤ bad s := by omega
          have CA := Lib.hid (fun w hT => runes_All_bad s w hT hbad2)
          have CB := Lib.hid (fun w hT => runes_Bad s w hT)
          generalize bad s = bs at *
          clear hbad
          go_wp2_with fail
          refine (CA.out _ (hT.below hb15)).mono ?_; rintro e x1 ⟨rfl, gb1⟩
          have hb91 := bthen hb15 gb1
          go_wp2_with fail
          refine (CB.out _ (hT.below hb91)).mono ?_; rintro e x2 ⟨rfl, gb2⟩
          have hb92 := bthen hb91 gb2
          go_wp2_with fail
          go_ret
          exact ⟨rfl, hb92⟩
end Go.Proofs.YtfgchnhjboehpaaDoor
