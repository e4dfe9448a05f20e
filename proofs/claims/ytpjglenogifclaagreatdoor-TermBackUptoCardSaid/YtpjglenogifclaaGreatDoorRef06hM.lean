/- Layer 6: the reference's Quote, walked. -/
import Derived.Test.YtpjglenogifclaaGreatDoorRef06M
import Derived.Test.YtpjglenogifclaaGreatDoorQuoted6M
namespace Go.Proofs.YtpjglenogifclaaGreatDoor
set_option linter.all false
open Go.RowKit
attribute [local irreducible] wpStill

set_option maxRecDepth 100000 in
set_option maxHeartbeats 4000000 in
theorem ref_Quote06 (s : ByteArray) (w : World) (hs : s.size ≤ 2147483647) :
    Calls Tryz.prog 58 #[.string s] w fun e w' => e = .returned (.string (quote s)) ∧ Below w.heap.size w w' := by
  have HQ : RowKit.Hid (∀ v w', v = strOfNums (quoteTo s s.size ++ [34]) → Below w.heap.size w w' → (fun (e : Ending) w' => e = .returned (.string (quote s)) ∧ Below w.heap.size w w') (.returned (.string v)) w') := Lib.hid fun v w' h1 h2 => by
    refine ⟨?_, h2⟩
    rw [h1, ← quoteTo_all]
    unfold quote
    rfl
  generalize (fun (e : Ending) w' => e = .returned (.string (quote s)) ∧ Below w.heap.size w w') = Q at *
  go_enter Tryz.func58, Tryz.ntmps58
  go_wp2_with fail
  go_loopw [4, 5] (fun v i wr => ∃ k : Nat, k ≤ s.size ∧ i = .int .i64 k ∧ Below w.heap.size w wr ∧ wr.ownsRow w.heap.size 5 1 v (quoteTo s k).length ((quoteTo s k).map (Value.int .u8))) (fun _ i _ => s.size - (intOf i).toNat)
  case atStart =>
    refine ⟨0, Nat.zero_le _, rfl, (Below.refl _ _).alloc (Nat.le_refl _) _, ?_⟩
    exact World.ownsRow_lit w #[.int .u8 34] 1 (Nat.le_refl _) (by unfold maxLen; omega) rfl
  case round =>
    obtain ⟨k, hk, rfl, hb, hown⟩ := hrel
    have hlen := quoteTo_len s k
    have HO := Lib.hid hown
    have HB := Lib.hid hb
    have hbase := hb.size
    clear hown hb
    by_cases hlt : k < s.size
    · have hlt' : (k : Int) < s.size := by omega
      have hk0 : (0 : Int) ≤ k := by omega
      have hbt := bt_at s k hlt
      have hbl := bt_lt s k
      have HN := Lib.hid (quoteTo_next s k hlt)
      have hwk : IntKind.i64.wrap ((k : Int) + 1) = ((k + 1 : Nat) : Int) := by rw [IntKind.wrap_i64]; omega
      generalize bt s k = c at *
      obtain ⟨va, vm, vc, rfl⟩ := owns_slice HO.out
      generalize quoteTo s k = l at *
      by_cases h10 : c = 10
      · have h10' : (c : Int) = 10 := by omega
        have hq : quoteByte c = [92, 110] := by unfold quoteByte; rw [if_pos h10]
        rw [hq] at HN
        clear hq
        go_wp2_with (at_builtin; refine wpList_append_lit wr #[.int .u8 92, .int .u8 110] _ rfl _ _ 56 5 rfl Tryz.underlying56 w.heap.size info_u8 rfl (by decide) _ _ _ rfl HO.out 2 2 rfl rfl (by decide) (by intro u hu; simp at hu; rcases hu with rfl | rfl <;> rfl) (by omega) (by omega) hbase ?_)
        intro v' w' hown hgr _
        have hb2 := grown_below HB.out hbase HO.out hgr
        have HO2 := Lib.hid hown
        have HB2 := Lib.hid hb2
        clear hown hb2 hgr
        go_wp2_with fail
        refine ⟨?_, (by simp [intOf]; try omega)⟩
        exact ⟨k + 1, by omega, by go_num, HB2.out, by rw [HN.out, List.length_append, List.map_append]; exact HO2.out⟩
      · have h10' : ¬ (c : Int) = 10 := by omega
        by_cases h34 : c = 34 ∨ c = 92
        · have hq : quoteByte c = [92, (c : Int)] := by unfold quoteByte; rw [if_neg h10, if_pos h34]
          rw [hq] at HN
          clear hq
          rcases h34 with rfl | rfl
          all_goals (
            go_wp2_with (at_builtin; refine wpList_append_lit wr #[.int .u8 92, .int .u8 _] _ rfl _ _ 56 5 rfl Tryz.underlying56 w.heap.size info_u8 rfl (by decide) _ _ _ rfl HO.out 2 2 rfl rfl (by decide) (by intro u hu; simp at hu; rcases hu with rfl | rfl <;> rfl) (by omega) (by omega) hbase ?_)
            intro v' w' hown hgr _
            have hb2 := grown_below HB.out hbase HO.out hgr
            have HO2 := Lib.hid hown
            have HB2 := Lib.hid hb2
            clear hown hb2 hgr
            go_wp2_with fail
            refine ⟨?_, (by simp [intOf]; try omega)⟩
            exact ⟨k + 1, by omega, by go_num, HB2.out, by rw [HN.out, List.length_append, List.map_append]; exact HO2.out⟩)
        · have h34' : ¬ (c : Int) = 34 := by omega
          have h92' : ¬ (c : Int) = 92 := by omega
          have b10 : ((c : Int) == 10) = false := by rw [beq_eq_false_iff_ne]; exact h10'
          have b34 : ((c : Int) == 34) = false := by rw [beq_eq_false_iff_ne]; exact h34'
          have b92 : ((c : Int) == 92) = false := by rw [beq_eq_false_iff_ne]; exact h92'
          by_cases hp : 32 ≤ c ∧ c ≤ 126
          · have hp1 : ¬ (c : Int) < 32 := by omega
            have hp2 : (c : Int) ≤ 126 := by omega
            have hq : quoteByte c = [(c : Int)] := by unfold quoteByte; rw [if_neg h10, if_neg h34, if_pos hp]
            rw [hq] at HN
            clear hq
            go_wp2_with (at_builtin; refine wpList_append_lit wr #[.int .u8 _] _ rfl _ _ 56 5 rfl Tryz.underlying56 w.heap.size info_u8 rfl (by decide) _ _ _ rfl HO.out 1 1 rfl rfl (by decide) (by intro u hu; simp at hu; subst hu; rfl) (by omega) (by omega) hbase ?_)
            intro v' w' hown hgr _
            have hb2 := grown_below HB.out hbase HO.out hgr
            have HO2 := Lib.hid hown
            have HB2 := Lib.hid hb2
            clear hown hb2 hgr
            go_wp2_with fail
            refine ⟨?_, (by simp [intOf]; try omega)⟩
            exact ⟨k + 1, by omega, by go_num, HB2.out, by rw [HN.out, List.length_append, List.map_append]; exact HO2.out⟩
          · have hq : quoteByte c = [92, 120, hexZ (c / 16), hexZ (c % 16)] := by unfold quoteByte; rw [if_neg h10, if_neg h34, if_neg hp]
            rw [hq] at HN
            obtain ⟨k1, hk1⟩ : ∃ k1, k1 = c / 16 := ⟨_, rfl⟩
            obtain ⟨k2, hk2⟩ : ∃ k2, k2 = c % 16 := ⟨_, rfl⟩
            rw [← hk1, ← hk2] at HN
            have hd1 : k1 < 16 := by omega
            have hd2 : k2 < 16 := by omega
            have hd1' : (k1 : Int) < 16 := by omega
            have hd2' : (k2 : Int) < 16 := by omega
            have hd3' : (0 : Int) ≤ k1 := by omega
            have hd4' : (0 : Int) ≤ k2 := by omega
            have he1 : (c : Int) / 16 = k1 := by omega
            have he2 : (c : Int) % 16 = k2 := by omega
            have he2t : (c : Int).tmod 16 = k2 := by rw [Int.tmod_eq_emod_of_nonneg (by omega)]; exact he2
            have hw1 : IntKind.u8.wrap (k1 : Int) = k1 := by unfold IntKind.wrap; simp [IntKind.signed, IntKind.bits]; omega
            have hw2 : IntKind.u8.wrap (k2 : Int) = k2 := by unfold IntKind.wrap; simp [IntKind.signed, IntKind.bits]; omega
            clear hk1 hk2
            by_cases hlo : c < 32
            · have hlo' : (c : Int) < 32 := by omega
              go_wp2_with fail
              refine wp_region_still_tailF 8 (.slice va vm vc) (by kernel_rfl) (by kernel_rfl) (fun _ _ _ h => h) (Or.inl ⟨by rfl, by intro w; go_simp⟩) ?_
              simp only [List.take_succ_cons, List.take_zero, List.drop_succ_cons, List.drop_zero]
              repeat still_step
              try refine wpStill_nil ?_
              change wpList _ _ _ _ _ wr.drew
              have HOd := Lib.hid (show wr.drew.ownsRow w.heap.size 5 1 (.slice va vm vc) l.length (l.map (Value.int .u8)) from HO.out)
              have HBd := Lib.hid HB.out.drew
              go_wp2_with (at_builtin; refine wpList_append_lit wr.drew #[.int .u8 92, .int .u8 120, .int .u8 _, .int .u8 _] _ rfl _ _ 56 5 rfl Tryz.underlying56 w.heap.size info_u8 rfl (by decide) _ _ _ rfl HOd.out 4 4 rfl rfl (by decide) (by intro u hu; simp at hu; rcases hu with rfl | rfl | rfl | rfl <;> rfl) (by omega) (by omega) hbase ?_)
              intro v' w' hown hgr _
              have hb2 := grown_below HBd.out hbase HOd.out hgr
              simp only [hex_at k1 hd1, hex_at k2 hd2] at hown
              have HO2 := Lib.hid hown
              have HB2 := Lib.hid hb2
              clear hown hb2 hgr
              go_wp2_with fail
              refine ⟨?_, (by simp [intOf]; try omega)⟩
              exact ⟨k + 1, by omega, by go_num, HB2.out, by rw [HN.out, List.length_append, List.map_append]; exact HO2.out⟩
            · have hlo' : ¬ (c : Int) < 32 := by omega
              have hhi' : (126 : Int) < c := by omega
              go_wp2_with fail
              refine wp_region_still_tailF 8 (.slice va vm vc) (by kernel_rfl) (by kernel_rfl) (fun _ _ _ h => h) (Or.inl ⟨by rfl, by intro w; go_simp⟩) ?_
              simp only [List.take_succ_cons, List.take_zero, List.drop_succ_cons, List.drop_zero]
              repeat still_step
              try refine wpStill_nil ?_
              change wpList _ _ _ _ _ wr.drew
              have HOd := Lib.hid (show wr.drew.ownsRow w.heap.size 5 1 (.slice va vm vc) l.length (l.map (Value.int .u8)) from HO.out)
              have HBd := Lib.hid HB.out.drew
              go_wp2_with (at_builtin; refine wpList_append_lit wr.drew #[.int .u8 92, .int .u8 120, .int .u8 _, .int .u8 _] _ rfl _ _ 56 5 rfl Tryz.underlying56 w.heap.size info_u8 rfl (by decide) _ _ _ rfl HOd.out 4 4 rfl rfl (by decide) (by intro u hu; simp at hu; rcases hu with rfl | rfl | rfl | rfl <;> rfl) (by omega) (by omega) hbase ?_)
              intro v' w' hown hgr _
              have hb2 := grown_below HBd.out hbase HOd.out hgr
              simp only [hex_at k1 hd1, hex_at k2 hd2] at hown
              have HO2 := Lib.hid hown
              have HB2 := Lib.hid hb2
              clear hown hb2 hgr
              go_wp2_with fail
              refine ⟨?_, (by simp [intOf]; try omega)⟩
              exact ⟨k + 1, by omega, by go_num, HB2.out, by rw [HN.out, List.length_append, List.map_append]; exact HO2.out⟩
    · obtain rfl : k = s.size := by omega
      have hlt' : ¬ ((s.size : Nat) : Int) < s.size := by omega
      generalize quoteTo s s.size = l at *
      obtain ⟨va, vm, vc, rfl⟩ := owns_slice HO.out
      go_wp2_with (at_builtin; refine wpList_append_lit wr #[.int .u8 34] _ rfl _ _ 56 5 rfl Tryz.underlying56 w.heap.size info_u8 rfl (by decide) _ _ _ rfl HO.out 1 1 rfl rfl (by decide) (by intro u hu; simp at hu; subst hu; rfl) (by omega) (by omega) hbase ?_)
      intro v' w' hown hgr _
      have hb2 := grown_below HB.out hbase HO.out hgr
      have hcv : (convert 56 9 v').run Tryz.prog w' = .ok (.string (strOfNums (l ++ [34]))) w' := conv_owned (n := l.length + 1) (by rw [List.map_append]; exact hown)
      have HB2 := Lib.hid hb2
      clear hown hb2 hgr
      go_wp2_with fail
      show Q (.returned (.string _)) _
      exact HQ.out _ _ rfl HB2.out
end Go.Proofs.YtpjglenogifclaaGreatDoor
