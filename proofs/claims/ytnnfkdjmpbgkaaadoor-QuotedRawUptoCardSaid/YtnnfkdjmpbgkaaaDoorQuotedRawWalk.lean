/- The statement QuotedRaw, walked: the call returns true. -/
import Derived.Test.YtnnfkdjmpbgkaaaDoorLaw06
import Derived.Test.YtnnfkdjmpbgkaaaDoorQuotedL2
import Derived.Test.YtnnfkdjmpbgkaaaDoorAppend2
namespace Go.Proofs.YtnnfkdjmpbgkaaaDoor
set_option linter.all false
open Go.RowKit
attribute [local irreducible] wpStill
/-- The bytes, as a row's values. -/
def u8s (l : List UInt8) : List Value := (numsL l).map (Value.int .u8)
theorem u8s_snoc (l : List UInt8) (b : UInt8) : u8s (l ++ [b]) = u8s l ++ [Value.int .u8 (b.toNat : Int)] := by unfold u8s numsL; simp
theorem u8s_length (l : List UInt8) : (u8s l).length = l.length := by unfold u8s numsL; simp
/-- What holds behind k bytes: two rows of bytes of the call's own, apart. -/
def rawRel (s : ByteArray) (w : World) (v1 v2 k : Value) (wr : World) : Prop :=
  ∃ kk : Nat, k = .int .i64 kk ∧ kk ≤ s.size ∧ Below w.heap.size w wr ∧ wr.ownsRow w.heap.size 5 1 v1 (insideL (s.data.toList.take kk)).length (u8s (insideL (s.data.toList.take kk))) ∧
    wr.ownsRow w.heap.size 5 1 v2 (saysL (s.data.toList.take kk)).length (u8s (saysL (s.data.toList.take kk))) ∧ (v1.ownBlock = none ∨ v1.ownBlock ≠ v2.ownBlock) ∧ (v2.ownBlock = none ∨ v2.ownBlock ≠ v1.ownBlock)
theorem insideL_len (s : ByteArray) (k : Nat) : (insideL (s.data.toList.take k)).length ≤ k ∧ (saysL (s.data.toList.take k)).length ≤ k := by
  have h1 : (s.data.toList.take k).length ≤ k := List.length_take_le _ _
  have h2 : (insideL (s.data.toList.take k)).length ≤ (s.data.toList.take k).length := List.length_filter_le _ _
  have h3 : (saysL (s.data.toList.take k)).length ≤ (insideL (s.data.toList.take k)).length := List.length_filter_le _ _
  omega
set_option maxRecDepth 100000 in
set_option maxHeartbeats 4000000 in
theorem QuotedRaw_walk (s : ByteArray) (hs : s.size ≤ 1048576) (w : World) (hT : Tabs w) (hM : MaxC w) :
    Calls Tryd.prog 7 #[.string s] w fun e w' => e = .returned (.bool true) ∧ Below w.heap.size w w' := by
  have HQ : RowKit.Hid (∀ w', Below w.heap.size w w' → (fun (e : Ending) w' => e = .returned (.bool true) ∧ Below w.heap.size w w') (.returned (.bool true)) w') := Lib.hid fun w' h => ⟨rfl, h⟩
  generalize (fun (e : Ending) w' => e = .returned (.bool true) ∧ Below w.heap.size w w') = Q at *
  have C4 := Lib.hid (fun w' (hb : Below w.heap.size w w') => law06_fixed w' (hT.below hb) (hM.below hb))
  have CV := Lib.hid (fun (t : ByteArray) (ht : t.size ≤ 2147483647) w' (hb : Below w.heap.size w w') => quoted_Value t w' (hT.below hb) (hM.below hb) ht)
  go_enter Tryd.func7, Tryd.ntmps7
  go_wp2_with fail
  go_loopw [3, 4, 5] (fun v1 v2 k wr => rawRel s w v1 v2 k wr) (fun _ _ k _ => s.size - (intOf k).toNat)
  case atStart => exact ⟨0, rfl, Nat.zero_le _, Below.refl _ _, World.ownsRow_nil _ _ _ _, World.ownsRow_nil _ _ _ _, Or.inl rfl, Or.inl rfl⟩
  case round =>
    obtain ⟨k, rfl, hk, hb, ho1, ho2, ha1, ha2⟩ := hrel
    have hl1 := insideL_len s k
    have HB := Lib.hid hb
    have HO1 := Lib.hid ho1
    have HO2 := Lib.hid ho2
    have HA1 := Lib.hid ha1
    have HA2 := Lib.hid ha2
    have hbase := hb.size
    obtain ⟨va, vm, vc, rfl⟩ := owns_slice HO1.out
    obtain ⟨ua, um, uc, rfl⟩ := owns_slice HO2.out
    clear hb ho1 ho2 ha1 ha2
    by_cases hlt : k < s.size
    · have hlt' : (k : Int) < s.size := by omega
      have hk0 : (0 : Int) ≤ k := by omega
      have hwk : IntKind.i64.wrap ((k : Int) + 1) = ((k + 1 : Nat) : Int) := by rw [IntKind.wrap_i64]; omega
      have hl : k < s.data.toList.length := by rw [← size_data]; exact hlt
      have hyy : ∀ h, ((s[k]'h).toNat : Int) = (bt s k : Int) := fun h => by rw [bt_at s k h]
      have hxe : ((s.data.toList[k]).toNat : Int) = (bt s k : Int) := by
        unfold bt; rw [get!_list, List.getD_eq_getElem?_getD, List.getElem?_eq_getElem hl]; rfl
      have HT1 := Lib.hid (take_inside s k hlt hl)
      have HT2 := Lib.hid (take_says s k hlt hl)
      generalize s.data.toList[k] = x at *
      have HXE := Lib.hid hxe
      clear hxe
      by_cases h96 : bt s k = 96
      · have h96' : (bt s k : Int) = 96 := by omega
        rw [if_pos h96, List.append_nil] at HT1
        rw [if_pos (Or.inl h96), List.append_nil] at HT2
        have HR : RowKit.Hid (rawRel s w (.slice va vm vc) (.slice ua um uc) (.int .i64 (k + 1 : Nat)) wr) := Lib.hid ⟨k + 1, rfl, by omega, HB.out, by rw [HT1.out]; exact HO1.out, by rw [HT2.out]; exact HO2.out, HA1.out, HA2.out⟩
        generalize bt s k = c at *
        go_wp2_with fail
        refine ⟨?_, (by simp [intOf]; try omega)⟩
        first
          | exact HR.out
          | (repeat apply Exists.intro
             refine ⟨?_, rfl⟩
             exact HR.out)
      · have h96' : ¬ (bt s k : Int) = 96 := by omega
        have b96 : ((bt s k : Int) == 96) = false := by rw [beq_eq_false_iff_ne]; exact h96'
        rw [if_neg h96] at HT1
        have HC := Lib.hid (fun (h : bt s k = 13) => (if_pos (Or.inr h) : (if bt s k = 96 ∨ bt s k = 13 then ([] : List UInt8) else [x]) = []))
        have HC2 := Lib.hid (fun (h : ¬ bt s k = 13) => (if_neg (by omega) : (if bt s k = 96 ∨ bt s k = 13 then ([] : List UInt8) else [x]) = [x]))
        generalize bt s k = c at *
        by_cases h13 : c = 13
        · have h13' : (c : Int) = 13 := by omega
          rw [HC.out h13, List.append_nil] at HT2
          go_wp2_with (at_builtin; refine wpList_append_lit2 wr #[.int .u8 _] _ rfl _ _ 32 5 rfl Tryd.underlying32 w.heap.size info_u8 rfl (by decide) _ _ _ rfl HO1.out 1 1 rfl rfl (by decide) (by intro u hu; simp at hu; subst hu; rfl) (by omega) (by omega) hbase ?_)
          intro v' w' hown hgr hblk
          have hb4 := grown_below HB.out hbase HO1.out hgr
          have ho2 : w'.ownsRow w.heap.size 5 1 (.slice ua um uc) _ _ := (HO2.out.alloc _).kept hgr HA2.out
          have hlt2 := HO2.out.lt
          have HR : RowKit.Hid (rawRel s w v' (.slice ua um uc) (.int .i64 (k + 1 : Nat)) w') := Lib.hid ⟨k + 1, rfl, by omega, hb4, by rw [HT1.out, List.length_append, u8s_snoc, HXE.out, h13']; exact hown, by rw [HT2.out]; exact ho2, by
            rcases hblk with h | h
            · rw [h]; exact HA1.out
            · right; rw [h]; intro e; have := (hlt2 _ e.symm).2; omega, by
            rcases hblk with h | h
            · rw [h]; exact HA2.out
            · right; rw [h]; intro e; have := (hlt2 _ e).2; omega⟩
          clear hb4 ho2 hown hgr hblk hlt2
          go_wp2_with fail
          refine ⟨?_, (by simp [intOf]; try omega)⟩
          first
            | exact HR.out
            | (repeat apply Exists.intro
               refine ⟨?_, rfl⟩
               exact HR.out)
        · have h13' : ¬ (c : Int) = 13 := by omega
          have b13 : ((c : Int) == 13) = false := by rw [beq_eq_false_iff_ne]; exact h13'
          have n13 : ((c : Int) != 13) = true := by simp [bne, b13]
          rw [HC2.out h13] at HT2
          go_wp2_with (at_builtin; refine wpList_append_lit2 wr #[.int .u8 _] _ rfl _ _ 32 5 rfl Tryd.underlying32 w.heap.size info_u8 rfl (by decide) _ _ _ rfl HO1.out 1 1 rfl rfl (by decide) (by intro u hu; simp at hu; subst hu; rfl) (by omega) (by omega) hbase ?_)
          intro v' w' hown hgr hblk
          have hb4 := grown_below HB.out hbase HO1.out hgr
          have ho2 : w'.ownsRow w.heap.size 5 1 (.slice ua um uc) _ _ := (HO2.out.alloc _).kept hgr HA2.out
          have hlt2 := HO2.out.lt
          have ha3 : v'.ownBlock = none ∨ v'.ownBlock ≠ (Value.slice ua um uc).ownBlock := by
            rcases hblk with h | h
            · rw [h]; exact HA1.out
            · right; rw [h]; intro e; have := (hlt2 _ e.symm).2; omega
          have HA3 := Lib.hid ha3
          have HO3 := Lib.hid hown
          have HO4 := Lib.hid ho2
          have HB4 := Lib.hid hb4
          have hbase4 := hb4.size
          obtain ⟨va', vm', vc', rfl⟩ := owns_slice HO3.out
          clear hb4 ho2 hown hgr hblk hlt2 ha3
          go_wp2_with (at_builtin; refine wpList_append_lit2 w' #[.int .u8 _] _ rfl _ _ 32 5 rfl Tryd.underlying32 w.heap.size info_u8 rfl (by decide) _ _ _ rfl HO4.out 1 1 rfl rfl (by decide) (by intro u hu; simp at hu; subst hu; rfl) (by omega) (by omega) hbase4 ?_)
          intro v'' w'' hown hgr hblk
          have hb5 := grown_below HB4.out hbase4 HO4.out hgr
          have hswap : (Value.slice va' vm' vc').ownBlock = none ∨ (Value.slice va' vm' vc').ownBlock ≠ (Value.slice ua um uc).ownBlock := HA3.out
          have ho1 : w''.ownsRow w.heap.size 5 1 (.slice va' vm' vc') _ _ := (HO3.out.alloc _).kept hgr hswap
          have hlt2 := HO3.out.lt
          have HR : RowKit.Hid (rawRel s w (.slice va' vm' vc') v'' (.int .i64 (k + 1 : Nat)) w'') := Lib.hid ⟨k + 1, rfl, by omega, hb5, by rw [HT1.out, List.length_append, u8s_snoc, HXE.out]; exact ho1, by rw [HT2.out, List.length_append, u8s_snoc, HXE.out]; exact hown, by
            rcases hblk with h | h
            · rw [h]; exact hswap
            · right; rw [h]; intro e; have := (hlt2 _ e).2; omega, by
            rcases hblk with h | h
            · rw [h]
              cases hu : (Value.slice ua um uc).ownBlock with
              | none => exact Or.inl rfl
              | some g =>
                right
                intro e
                rcases hswap with h2 | h2
                · rw [h2] at e; cases e
                · exact h2 (by rw [hu]; exact e.symm)
            · right; rw [h]; intro e; have := (hlt2 _ e.symm).2; omega⟩
          clear hb5 ho1 hown hgr hblk hlt2 hswap
          go_wp2_with fail
          refine ⟨?_, (by simp [intOf]; try omega)⟩
          first
            | exact HR.out
            | (repeat apply Exists.intro
               refine ⟨?_, rfl⟩
               exact HR.out)
    · have hkx : k = s.size := by omega
      have hlt' : ¬ (k : Int) < s.size := by omega
      have etk : s.data.toList.take k = s.data.toList := List.take_of_length_le (by rw [← size_data]; omega)
      rw [etk] at HO1 HO2 hl1
      have hcv1 : (convert 32 9 (.slice va vm vc)).run Tryd.prog wr = .ok (.string ⟨(insideL s.data.toList).toArray⟩) wr := by
        have := conv_owned HO1.out
        rwa [strOfNums_numsL] at this
      have hne := insideL_ne s.data.toList
      have hv := raw_value (insideL s.data.toList) hne ((⟨#[96]⟩ : ByteArray) ++ ⟨(insideL s.data.toList).toArray⟩ ++ ⟨#[96]⟩) (by rw [data_append, data_append]; simp)
      have hsz : ((⟨#[96]⟩ : ByteArray) ++ ⟨(insideL s.data.toList).toArray⟩ ++ ⟨#[96]⟩).size ≤ 2147483647 := by
        rw [size_data, data_append, data_append]; simp; omega
      have HV := Lib.hid hv
      have HSZ := Lib.hid hsz
      have hsy : (insideL s.data.toList).filter (fun x => x != 13) = saysL s.data.toList := rfl
      rw [hsy] at HV
      have hcv2 : ∀ w2, Below wr.heap.size wr w2 → (convert 32 9 (.slice ua um uc)).run Tryd.prog w2 = .ok (.string ⟨(saysL s.data.toList).toArray⟩) w2 := fun w2 hb2 => by
        have := conv_owned (owns_below HO2.out hb2)
        rwa [strOfNums_numsL] at this
      have HCV := Lib.hid hcv2
      clear hcv2 hv hsz hsy hne
      have hts : (⟨(insideL s.data.toList).toArray⟩ : ByteArray).size ≤ 1048576 := by rw [size_data]; simp; omega
      generalize (⟨(insideL s.data.toList).toArray⟩ : ByteArray) = t1 at *
      generalize (⟨(saysL s.data.toList).toArray⟩ : ByteArray) = t2 at *
      have hc1 : ¬ 9223372036854775807 < 1 + t1.size := by omega
      have hc2 : ¬ 9223372036854775807 < 1 + t1.size + 1 := by omega
      have hc3 : 1 + t1.size ≤ 9223372036854775807 := by omega
      have hc4 : 1 + t1.size + 1 ≤ 9223372036854775807 := by omega
      go_wp2_with fail
      refine (CV.out _ HSZ.out _ HB.out).mono ?_
      intro e w2 h2
      unfold valuePost at h2
      rw [HV.out] at h2
      obtain ⟨rfl, hb2⟩ := h2
      have HB2 := Lib.hid (bthen HB.out hb2)
      have HB2' := Lib.hid hb2
      clear hb2
      go_wp2_with fail
      refine (C4.out _ HB2.out).mono ?_
      rintro e w3 ⟨rfl, hb3⟩
      have HB3 := Lib.hid (bthen HB2.out hb3)
      have hcv3 := HCV.out _ (bthen HB2'.out hb3)
      clear hb3
      go_wp2_with fail
      show Q (.returned (.bool _)) _
      exact HQ.out _ HB3.out
end Go.Proofs.YtnnfkdjmpbgkaaaDoor
