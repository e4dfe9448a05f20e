/- The statement RunesJoins, walked: the call returns true. -/
import Derived.Test.YtfgchnhjboehpaaDoorLaw01
import Derived.Test.YtfgchnhjboehpaaDoorRef01b
import Derived.Test.YtfgchnhjboehpaaDoorJoin
import Derived.Test.YtfgchnhjboehpaaDoorU8b
import Derived.Test.YtfgchnhjboehpaaDoorOpen
namespace Go.Proofs.YtfgchnhjboehpaaDoor
open Go.RowKit

/-- '[]T{}': a block without cells. -/
theorem owns_empty (w : World) (e : TypeId) (size : Nat) : (w.alloc (.cells #[] e)).ownsRow w.heap.size e size (.slice (some ⟨w.heap.size, 0, none⟩) 0 0) 0 [] :=
  World.ownsRow_lit w #[] 0 (Nat.le_refl _) (by decide) (by simp)
theorem i32_oneCell (l : List Int) : ∀ u ∈ l.map (Value.int .i32), u.oneCell' = true := by
  intro u hu
  obtain ⟨x, _, rfl⟩ := List.mem_map.1 hu
  rfl
theorem formsZ_le (l : List Int) (k : Nat) : (formsZ (l.take k)).length ≤ 4 * k := by
  have := formsZ_length (l.take k)
  have : (l.take k).length ≤ k := List.length_take_le _ _
  omega
set_option maxRecDepth 100000 in
set_option maxHeartbeats 4000000 in
theorem RunesJoins_walk (w : World) (v : Value) (l : List Int) (hv : RowInts w v .i32 l) (hwf : ∀ n ∈ l, (Lit.int .i32 n).wf = true) (hn : l.length ≤ 1048576) (hT : Tabs w) :
    Calls Tryd.prog 7 #[v] w fun e w' => e = .returned (.bool true) ∧ Below w.heap.size w w' := by
  have H32 := Lib.hid (i32s hwf)
  have HV := Lib.hid hv
  have h0 := owns_empty w 21 1
  obtain ⟨a, cap, rfl, hc, hcell⟩ := hv.open'
  have HC := Lib.hid hcell
  clear hwf hv hcell
  go_enter Tryd.func7, Tryd.ntmps7
  go_wp2_with (at_builtin; refine wpList_append_row rfl _ _ 32 21 rfl Tryd.underlying32 w.heap.size info_i32 rfl (by decide) _ _ _ rfl h0 _ l.length (l.map (Value.int .i32)) rfl ?_ (i32_oneCell l) ?_ ?_ ?_ ?_)
  · show Row (w.alloc (Obj.cells #[] 21)) (.slice a l.length cap) l.length 1 (l.map (Value.int .i32))
    exact Row.below HV.out ((Below.refl _ _).alloc (Nat.le_refl _) _)
  · omega
  · omega
  · simp
  intro v' w1 hown hgr
  have hb1 : Below w.heap.size w w1 := ((Below.refl _ w).alloc (Nat.le_refl _) _).grown hgr (by simp) (fun k hk => (h0.lt k hk).1)
  have R1 := Lib.hid (RowInts.of_owns hown)
  clear hown hgr h0
  go_wp2_with fail
  refine (runes_Join v' l _ R1.out H32.out (by omega)).mono ?_; rintro e w2 ⟨rfl, hb2⟩
  have hb12 := bthen hb1 hb2
  clear hb1 hb2
  go_wp2_with fail
  go_loopw [5, 6, 7] (fun a b i wr => ∃ k : Nat, k ≤ l.length ∧ k ≤ 3000 ∧ i = .int .i64 k ∧ a = .string (forms (l.take k)) ∧ b = .bool (allMay (l.take k)) ∧ Below w.heap.size w wr) (fun _ _ i _ => l.length - (intOf i).toNat)
  case atStart => exact ⟨0, Nat.zero_le _, Nat.zero_le _, rfl, rfl, rfl, hb12⟩
  case round =>
    obtain ⟨k, hk, hk3, rfl, rfl, rfl, hb⟩ := hrel
    by_cases hlt : k < l.length ∧ k < 3000
    · obtain ⟨hk1, hk2⟩ := hlt
      obtain ⟨b, off, rfl, hbl, hcl⟩ := HC.out (by omega)
      have h1 := (hb.cell (p := ⟨b, off + k, none⟩) hbl).trans (hcl k hk1)
      have hr := H32.out l[k] (List.getElem_mem hk1)
      have HT := Lib.hid (take_succ_get l k hk1)
      have hF : (forms (l.take k)).size ≤ 12000 := by unfold forms; rw [strOfNums_size]; have := formsZ_le l k; omega
      have hfm : forms (l.take (k + 1)) = forms (l.take k) ++ form l[k] := by
        rw [HT.out]; unfold forms; rw [formsZ_snoc, strOfNums_append]; unfold form; rfl
      have ham : allMay (l.take (k + 1)) = (allMay (l.take k) && may l[k]) := by
        rw [HT.out]; unfold allMay; rw [List.all_append]; simp
      have hG : (form l[k]).size ≤ 4 := by rw [form_size]; exact formZ_length _
      have hw : IntKind.i64.wrap l[k] = l[k] := IntWalk.i64_in _ (by omega)
      have C1 := Lib.hid (fun w => ref_May l[k] w)
      have C2 := Lib.hid (fun w => ref_Form l[k] w)
      clear hcl
      generalize forms (l.take k) = F at *
      generalize allMay (l.take k) = fine at *
      generalize may l[k] = m at *
      generalize form l[k] = G at *
      generalize l[k] = x at *
      have HFM := Lib.hid hfm; have HAM := Lib.hid ham
      clear hfm ham
      cases fine
      · go_wp2_with fail
        refine (C2.out _).mono ?_; rintro e w3 ⟨rfl, hb3⟩
        have hb4 := bthen hb hb3
        go_wp2_with fail
        go_roundw
        case rel => exact ⟨k + 1, by omega, by omega, by go_num, by rw [HFM.out], by rw [HAM.out]; rfl, hb4⟩
        case measure => simp [intOf]; omega
      · go_wp2_with fail
        refine (C1.out _).mono ?_; rintro e w3 ⟨rfl, rfl⟩
        go_wp2_with fail
        refine (C2.out _).mono ?_; rintro e w3 ⟨rfl, hb3⟩
        have hb4 := bthen hb hb3
        go_wp2_with fail
        go_roundw
        case rel => exact ⟨k + 1, by omega, by omega, by go_num, by rw [HFM.out], by rw [HAM.out]; simp, hb4⟩
        case measure => simp [intOf]; omega
    · by_cases hbig : 3000 < l.length
      · obtain rfl : k = 3000 := by omega
        go_wp2_with fail
        refine (law01_fixed _ (hT.below hb)).mono ?_; rintro e w3 ⟨rfl, hb3⟩
        go_wp2_with fail
        go_ret
        exact ⟨rfl, bthen hb hb3⟩
      · obtain rfl : k = l.length := by omega
        have e1 : l.take l.length = l := List.take_of_length_le (Nat.le_refl _)
        have hjy := @joinS_yes l
        have hjn := @joinS_no l
        rw [e1]
        cases hA : allMay l
        · have e2 : joinS l = ⟨#[]⟩ := hjn hA
          rw [e2]
          clear e2 hjy hjn hA e1
          go_wp2_with fail
          refine (law01_fixed _ (hT.below hb)).mono ?_; rintro e w3 ⟨rfl, hb3⟩
          go_wp2_with fail
          go_ret
          exact ⟨rfl, bthen hb hb3⟩
        · rw [hjy hA]
          clear hjy hjn hA e1
          go_wp2_with fail
          refine (law01_fixed _ (hT.below hb)).mono ?_; rintro e w3 ⟨rfl, hb3⟩
          go_wp2_with fail
          go_ret
          exact ⟨rfl, bthen hb hb3⟩
end Go.Proofs.YtfgchnhjboehpaaDoor
