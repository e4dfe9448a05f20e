/- Layer 6: the program's Scan, Value and Quote, walked. -/
import Derived.Test.YtpjglenogifclaaGreatDoorQuoted5M
import Derived.Laws.OwnMore
import Derived.Test.YtpjglenogifclaaGreatDoorStillM
namespace Go.Proofs.YtpjglenogifclaaGreatDoor
set_option linter.all false
open Go.RowKit
attribute [local irreducible] wpStill

@[irreducible] def scanPost (s : ByteArray) (at' : Int) (w0 : World) (e : Ending) (w' : World) : Prop :=
  e = .returned (.tuple #[.int .u8 (begun s at').1, .int .i64 (begun s at').2.1, .int .i64 (begun s at').2.2.2]) ∧ Below w0.heap.size w0 w'
set_option maxRecDepth 100000 in
set_option maxHeartbeats 4000000 in
theorem quoted_Scan (s : ByteArray) (at' : Int) (w0 : World) (hT : Tabs w0) (hM : MaxC w0) (hs : s.size ≤ 2147483647) :
    Calls Tryz.prog 62 #[.string s, .int .i64 at'] w0 (scanPost s at' w0) := by
  have CB := Lib.hid (quoted_begun s at' w0 hT hM hs)
  have HQ : RowKit.Hid (∀ w', Below w0.heap.size w0 w' → scanPost s at' w0 (.returned (.tuple #[.int .u8 (begun s at').1, .int .i64 (begun s at').2.1, .int .i64 (begun s at').2.2.2])) w') :=
    Lib.hid fun w' h1 => by unfold scanPost; exact ⟨rfl, h1⟩
  generalize scanPost s at' w0 = Q at *
  go_enter Tryz.func62, Tryz.ntmps62
  go_wp2_with fail
  refine CB.out.mono ?_
  intro e w1 h1
  unfold begunPost at h1
  obtain ⟨rfl, hb⟩ := h1
  unfold begunVals
  generalize begun s at' = q at *
  go_wp2_with fail
  exact HQ.out _ hb
@[irreducible] def valuePost (s : ByteArray) (w0 : World) (e : Ending) (w' : World) : Prop :=
  e = .returned (.tuple #[.string (value s).1, .int .i64 (value s).2]) ∧ Below w0.heap.size w0 w'
set_option maxRecDepth 100000 in
set_option maxHeartbeats 4000000 in
theorem quoted_Value (s : ByteArray) (w0 : World) (hT : Tabs w0) (hM : MaxC w0) (hs : s.size ≤ 2147483647) :
    Calls Tryz.prog 48 #[.string s] w0 (valuePost s w0) := by
  have CB := Lib.hid (quoted_begun s 0 w0 hT hM hs)
  have HQ : RowKit.Hid (∀ w' v err, Below w0.heap.size w0 w' → value s = (v, err) → valuePost s w0 (.returned (.tuple #[.string v, .int .i64 err])) w') :=
    Lib.hid fun w' v err h1 h2 => by unfold valuePost; rw [h2]; exact ⟨rfl, h1⟩
  generalize valuePost s w0 = Q at *
  have hV : value s = if (begun s 0).2.2.2 = 0 ∧ (begun s 0).2.1 = s.size then ((begun s 0).2.2.1, 0) else (ByteArray.empty, 4) := by unfold value; rfl
  have HV := Lib.hid hV
  clear hV
  go_enter Tryz.func48, Tryz.ntmps48
  go_wp2_with fail
  refine CB.out.mono ?_
  intro e w1 h1
  unfold begunPost at h1
  obtain ⟨rfl, hb⟩ := h1
  unfold begunVals
  generalize begun s 0 = q at *
  obtain ⟨k, t, v, err⟩ := q
  have HB := Lib.hid hb
  clear hb
  by_cases h1 : err = 0
  · by_cases h2 : t = s.size
    · go_wp2_with fail
      exact HQ.out _ _ _ HB.out (by rw [HV.out, if_pos ⟨h1, h2⟩])
    · go_wp2_with fail
      exact HQ.out _ _ _ HB.out (by rw [HV.out, if_neg (fun h => h2 h.2)]; rfl)
  · go_wp2_with fail
    exact HQ.out _ _ _ HB.out (by rw [HV.out, if_neg (fun h => h1 h.1)]; rfl)
end Go.Proofs.YtpjglenogifclaaGreatDoor
namespace Go.Proofs.YtpjglenogifclaaGreatDoor
set_option linter.all false
open Go.RowKit
attribute [local irreducible] wpStill

theorem hex_at (k : Nat) (h : k < 16) (h' : k < (⟨#[48, 49, 50, 51, 52, 53, 54, 55, 56, 57, 97, 98, 99, 100, 101, 102]⟩ : ByteArray).size) :
    (((⟨#[48, 49, 50, 51, 52, 53, 54, 55, 56, 57, 97, 98, 99, 100, 101, 102]⟩ : ByteArray)[k]'h').toNat : Int) = hexZ k := by
  revert h'
  have : ∀ k, k < 16 → ∀ (h' : k < (⟨#[48, 49, 50, 51, 52, 53, 54, 55, 56, 57, 97, 98, 99, 100, 101, 102]⟩ : ByteArray).size), (((⟨#[48, 49, 50, 51, 52, 53, 54, 55, 56, 57, 97, 98, 99, 100, 101, 102]⟩ : ByteArray)[k]'h').toNat : Int) = hexZ k := by decide +kernel
  exact this k h
theorem and15 : ∀ c : Nat, c < 256 → bits .and .u8 (c : Int) 15 = ((c % 16 : Nat) : Int) := by decide +kernel
/-- What is quoted behind k bytes. -/
def quoteTo (s : ByteArray) (k : Nat) : List Int := [34] ++ (s.data.toList.take k).flatMap (fun b => quoteByte b.toNat)
theorem quoteByte_len (c : Nat) : (quoteByte c).length ≤ 4 := by unfold quoteByte; split <;> (try split) <;> (try split) <;> simp
theorem quoteTo_len (s : ByteArray) (k : Nat) : (quoteTo s k).length ≤ 1 + 4 * k := by
  unfold quoteTo
  have : ∀ l : List UInt8, (l.flatMap fun b => quoteByte b.toNat).length ≤ 4 * l.length := by
    intro l
    induction l with
    | nil => simp
    | cons b t ih => have := quoteByte_len b.toNat; simp only [List.flatMap_cons, List.length_append, List.length_cons]; omega
  have h1 := this (s.data.toList.take k)
  have h2 : (s.data.toList.take k).length ≤ k := List.length_take_le _ _
  simp only [List.length_append, List.length_cons, List.length_nil]; omega
theorem quoteTo_next (s : ByteArray) (k : Nat) (h : k < s.size) : quoteTo s (k + 1) = quoteTo s k ++ quoteByte (bt s k) := by
  unfold quoteTo
  have hl : k < s.data.toList.length := by rw [← size_data]; exact h
  rw [List.take_succ_eq_append_getElem hl, List.flatMap_append]
  have e : (s.data.toList[k]).toNat = bt s k := by unfold bt; rw [get!_list, List.getD_eq_getElem?_getD, List.getElem?_eq_getElem hl]; rfl
  rw [List.flatMap_singleton, e, List.append_assoc]
theorem quoteTo_all (s : ByteArray) : quoteZ s = quoteTo s s.size ++ [34] := by
  unfold quoteZ quoteTo
  rw [List.take_of_length_le (by rw [← size_data]; exact Nat.le_refl _)]
set_option maxRecDepth 100000 in
set_option maxHeartbeats 4000000 in
theorem quoted_Quote (s : ByteArray) (w : World) (hs : s.size ≤ 2147483647) :
    Calls Tryz.prog 39 #[.string s] w fun e w' => e = .returned (.string (quote s)) ∧ Below w.heap.size w w' := by
  have HQ : RowKit.Hid (∀ v w', v = strOfNums (quoteTo s s.size ++ [34]) → Below w.heap.size w w' → (fun (e : Ending) w' => e = .returned (.string (quote s)) ∧ Below w.heap.size w w') (.returned (.string v)) w') := Lib.hid fun v w' h1 h2 => by
    refine ⟨?_, h2⟩
    rw [h1, ← quoteTo_all]
    unfold quote
    rfl
  generalize (fun (e : Ending) w' => e = .returned (.string (quote s)) ∧ Below w.heap.size w w') = Q at *
  go_enter Tryz.func39, Tryz.ntmps39
  go_wp2_with fail
  go_loopw [3, 9] (fun v i wr => ∃ k : Nat, k ≤ s.size ∧ i = .int .i64 k ∧ Below w.heap.size w wr ∧ wr.ownsRow w.heap.size 5 1 v (quoteTo s k).length ((quoteTo s k).map (Value.int .u8))) (fun _ i _ => s.size - (intOf i).toNat)
  case atStart =>
    refine ⟨0, Nat.zero_le _, rfl, (Below.refl _ _).alloc (Nat.le_refl _) _, ?_⟩
    exact World.ownsRow_lit w #[.int .u8 34] 1 (Nat.le_refl _) (by unfold maxLen; omega) rfl
  case round =>
    obtain ⟨k, hk, rfl, hb, hown⟩ := hrel
    have hlen := quoteTo_len s k
    have HO := Lib.hid hown
    have HB := Lib.hid hb
    have hbase := hb.size
    clear hown hb
    by_cases hlt : k < s.size
    · have hlt' : (k : Int) < s.size := by omega
      have hk0 : (0 : Int) ≤ k := by omega
      have hbt := bt_at s k hlt
      have hbl := bt_lt s k
      have HN := Lib.hid (quoteTo_next s k hlt)
      have hwk : IntKind.i64.wrap ((k : Int) + 1) = ((k + 1 : Nat) : Int) := by rw [IntKind.wrap_i64]; omega
      generalize bt s k = c at *
      obtain ⟨va, vm, vc, rfl⟩ := owns_slice HO.out
      generalize quoteTo s k = l at *
      by_cases h10 : c = 10
      · have h10' : (c : Int) = 10 := by omega
        have hq : quoteByte c = [92, 110] := by unfold quoteByte; rw [if_pos h10]
        rw [hq] at HN
        clear hq
        go_wp2_with (at_builtin; refine wpList_append_str rfl _ _ 56 9 rfl w.heap.size 5 Tryz.underlying56 Tryz.underlying9 info_u8 _ _ _ rfl HO.out ⟨#[92, 110]⟩ rfl (by have : (⟨#[92, 110]⟩ : ByteArray).size = 2 := rfl; omega) hbase ?_)
        intro v' w' hown hgr
        have hb2 := HB.out.grown hgr hbase (fun k hk => (HO.out.lt k hk).1)
        have HO2 := Lib.hid hown
        have HB2 := Lib.hid hb2
        clear hown hb2 hgr
        go_wp2_with fail
        refine ⟨?_, (by simp [intOf]; try omega)⟩
        exact ⟨k + 1, by omega, by go_num, HB2.out, by rw [HN.out, List.length_append, List.map_append]; exact HO2.out⟩
      · have h10' : ¬ (c : Int) = 10 := by omega
        by_cases h34 : c = 34 ∨ c = 92
        · have hq : quoteByte c = [92, (c : Int)] := by unfold quoteByte; rw [if_neg h10, if_pos h34]
          rw [hq] at HN
          clear hq
          rcases h34 with rfl | rfl
          all_goals (
            go_wp2_with (at_builtin; refine wpList_append_lit wr #[.int .u8 92, .int .u8 _] _ rfl _ _ 56 5 rfl Tryz.underlying56 w.heap.size info_u8 rfl (by decide) _ _ _ rfl HO.out 2 2 rfl rfl (by decide) (by intro u hu; simp at hu; rcases hu with rfl | rfl <;> rfl) (by omega) (by omega) hbase ?_)
            intro v' w' hown hgr _
            have hb2 := grown_below HB.out hbase HO.out hgr
            have HO2 := Lib.hid hown
            have HB2 := Lib.hid hb2
            clear hown hb2 hgr
            go_wp2_with fail
            refine ⟨?_, (by simp [intOf]; try omega)⟩
            exact ⟨k + 1, by omega, by go_num, HB2.out, by rw [HN.out, List.length_append, List.map_append]; exact HO2.out⟩)
        · have h34' : ¬ (c : Int) = 34 := by omega
          have h92' : ¬ (c : Int) = 92 := by omega
          have b10 : ((c : Int) == 10) = false := by rw [beq_eq_false_iff_ne]; exact h10'
          have b34 : ((c : Int) == 34) = false := by rw [beq_eq_false_iff_ne]; exact h34'
          have b92 : ((c : Int) == 92) = false := by rw [beq_eq_false_iff_ne]; exact h92'
          by_cases hp : 32 ≤ c ∧ c ≤ 126
          · have hp1 : ¬ (c : Int) < 32 := by omega
            have hp2 : (c : Int) ≤ 126 := by omega
            have hq : quoteByte c = [(c : Int)] := by unfold quoteByte; rw [if_neg h10, if_neg h34, if_pos hp]
            rw [hq] at HN
            clear hq
            go_wp2_with (at_builtin; refine wpList_append_lit wr #[.int .u8 _] _ rfl _ _ 56 5 rfl Tryz.underlying56 w.heap.size info_u8 rfl (by decide) _ _ _ rfl HO.out 1 1 rfl rfl (by decide) (by intro u hu; simp at hu; subst hu; rfl) (by omega) (by omega) hbase ?_)
            intro v' w' hown hgr _
            have hb2 := grown_below HB.out hbase HO.out hgr
            have HO2 := Lib.hid hown
            have HB2 := Lib.hid hb2
            clear hown hb2 hgr
            go_wp2_with fail
            refine ⟨?_, (by simp [intOf]; try omega)⟩
            exact ⟨k + 1, by omega, by go_num, HB2.out, by rw [HN.out, List.length_append, List.map_append]; exact HO2.out⟩
          · have hq : quoteByte c = [92, 120, hexZ (c / 16), hexZ (c % 16)] := by unfold quoteByte; rw [if_neg h10, if_neg h34, if_neg hp]
            rw [hq] at HN
            obtain ⟨k1, hk1⟩ : ∃ k1, k1 = c / 16 := ⟨_, rfl⟩
            obtain ⟨k2, hk2⟩ : ∃ k2, k2 = c % 16 := ⟨_, rfl⟩
            rw [← hk1, ← hk2] at HN
            have hd1 : k1 < 16 := by omega
            have hd2 : k2 < 16 := by omega
            have hd1' : (k1 : Int) < 16 := by omega
            have hd2' : (k2 : Int) < 16 := by omega
            have hd3' : (0 : Int) ≤ k1 := by omega
            have hd4' : (0 : Int) ≤ k2 := by omega
            have he1 : (c : Int) / 16 = k1 := by omega
            have he2 : bits .and .u8 (c : Int) 15 = (k2 : Int) := by rw [and15 c hbl, hk2]
            clear hk1 hk2
            by_cases hlo : c < 32
            · have hlo' : (c : Int) < 32 := by omega
              go_wp2_with fail
              refine wp_region_still_tailF 6 (.slice va vm vc) (by kernel_rfl) (by kernel_rfl) (fun _ _ _ h => h) (Or.inl ⟨by rfl, by intro w; go_simp⟩) ?_
              simp only [List.take_succ_cons, List.take_zero, List.drop_succ_cons, List.drop_zero]
              repeat still_step
              try refine wpStill_nil ?_
              change wpList _ _ _ _ _ wr.drew
              have HOd := Lib.hid (show wr.drew.ownsRow w.heap.size 5 1 (.slice va vm vc) l.length (l.map (Value.int .u8)) from HO.out)
              have HBd := Lib.hid HB.out.drew
              go_wp2_with (at_builtin; refine wpList_append_lit wr.drew #[.int .u8 92, .int .u8 120, .int .u8 _, .int .u8 _] _ rfl _ _ 56 5 rfl Tryz.underlying56 w.heap.size info_u8 rfl (by decide) _ _ _ rfl HOd.out 4 4 rfl rfl (by decide) (by intro u hu; simp at hu; rcases hu with rfl | rfl | rfl | rfl <;> rfl) (by omega) (by omega) hbase ?_)
              intro v' w' hown hgr _
              have hb2 := grown_below HBd.out hbase HOd.out hgr
              simp only [hex_at k1 hd1, hex_at k2 hd2] at hown
              have HO2 := Lib.hid hown
              have HB2 := Lib.hid hb2
              clear hown hb2 hgr
              go_wp2_with fail
              refine ⟨?_, (by simp [intOf]; try omega)⟩
              exact ⟨k + 1, by omega, by go_num, HB2.out, by rw [HN.out, List.length_append, List.map_append]; exact HO2.out⟩
            · have hlo' : ¬ (c : Int) < 32 := by omega
              have hhi' : (126 : Int) < c := by omega
              go_wp2_with fail
              refine wp_region_still_tailF 6 (.slice va vm vc) (by kernel_rfl) (by kernel_rfl) (fun _ _ _ h => h) (Or.inl ⟨by rfl, by intro w; go_simp⟩) ?_
              simp only [List.take_succ_cons, List.take_zero, List.drop_succ_cons, List.drop_zero]
              repeat still_step
              try refine wpStill_nil ?_
              change wpList _ _ _ _ _ wr.drew
              have HOd := Lib.hid (show wr.drew.ownsRow w.heap.size 5 1 (.slice va vm vc) l.length (l.map (Value.int .u8)) from HO.out)
              have HBd := Lib.hid HB.out.drew
              go_wp2_with (at_builtin; refine wpList_append_lit wr.drew #[.int .u8 92, .int .u8 120, .int .u8 _, .int .u8 _] _ rfl _ _ 56 5 rfl Tryz.underlying56 w.heap.size info_u8 rfl (by decide) _ _ _ rfl HOd.out 4 4 rfl rfl (by decide) (by intro u hu; simp at hu; rcases hu with rfl | rfl | rfl | rfl <;> rfl) (by omega) (by omega) hbase ?_)
              intro v' w' hown hgr _
              have hb2 := grown_below HBd.out hbase HOd.out hgr
              simp only [hex_at k1 hd1, hex_at k2 hd2] at hown
              have HO2 := Lib.hid hown
              have HB2 := Lib.hid hb2
              clear hown hb2 hgr
              go_wp2_with fail
              refine ⟨?_, (by simp [intOf]; try omega)⟩
              exact ⟨k + 1, by omega, by go_num, HB2.out, by rw [HN.out, List.length_append, List.map_append]; exact HO2.out⟩
    · obtain rfl : k = s.size := by omega
      have hlt' : ¬ ((s.size : Nat) : Int) < s.size := by omega
      generalize quoteTo s s.size = l at *
      obtain ⟨va, vm, vc, rfl⟩ := owns_slice HO.out
      go_wp2_with (at_builtin; refine wpList_append_lit wr #[.int .u8 34] _ rfl _ _ 56 5 rfl Tryz.underlying56 w.heap.size info_u8 rfl (by decide) _ _ _ rfl HO.out 1 1 rfl rfl (by decide) (by intro u hu; simp at hu; subst hu; rfl) (by omega) (by omega) hbase ?_)
      intro v' w' hown hgr _
      have hb2 := grown_below HB.out hbase HO.out hgr
      have hcv : (convert 56 9 v').run Tryz.prog w' = .ok (.string (strOfNums (l ++ [34]))) w' := conv_owned (n := l.length + 1) (by rw [List.map_append]; exact hown)
      have HB2 := Lib.hid hb2
      clear hown hb2 hgr
      go_wp2_with fail
      show Q (.returned (.string _)) _
      exact HQ.out _ _ rfl HB2.out
end Go.Proofs.YtpjglenogifclaaGreatDoor
namespace Go.Proofs.YtpjglenogifclaaGreatDoor
set_option linter.all false

theorem value_err (s : ByteArray) : (value s).2 = 0 ∨ (value s).2 = 4 := by
  unfold value
  split
  · exact Or.inl rfl
  · exact Or.inr rfl
theorem value_size {s v : ByteArray} (h : value s = (v, 0)) : 1 ≤ s.size := by
  obtain ⟨k, hk⟩ := value_ok h
  have := (begun_ok hk).2.1
  omega
theorem body_len (s : ByteArray) (i e : Nat) (l : List Int) (h : body s i = some (e, l)) : l.length ≤ 4 * (e - i) := by
  by_cases hi : i < s.size
  · by_cases hc : bt s i = 34
    · rw [body_mark hi hc] at h; cases h; simp
    · rw [body_item hi hc] at h
      cases hit : item s i 34 with
      | none => rw [hit] at h; cases h
      | some q =>
        obtain ⟨n, l1⟩ := q
        have hp := item_pos hi hit
        have hl := item_len hit
        rw [hit, Option.bind_some] at h
        cases hb : body s (i + n) with
        | none => rw [hb] at h; cases h
        | some p =>
          obtain ⟨e2, l2⟩ := p
          rw [hb] at h
          have := body_len s (i + n) e2 l2 hb
          have g := body_lim s (i + n) e2 l2 hb
          simp only [Option.map_some, Option.some.injEq, Prod.mk.injEq] at h
          obtain ⟨rfl, rfl⟩ := h
          rw [List.length_append]
          omega
  · rw [body_end hi] at h; cases h
termination_by s.size - i
decreasing_by omega
theorem value_len {s v : ByteArray} (h : value s = (v, 0)) (hm : bt s 0 = 34) : v.size ≤ 4 * s.size := by
  obtain ⟨h1, l, hb, rfl⟩ := value_body h hm
  have := body_len s 1 _ l hb
  rw [strOfNums_size]
  omega
end Go.Proofs.YtpjglenogifclaaGreatDoor
