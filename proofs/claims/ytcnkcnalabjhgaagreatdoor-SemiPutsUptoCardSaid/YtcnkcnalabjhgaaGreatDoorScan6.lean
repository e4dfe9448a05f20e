/- Layer 7: the program's functions, walked: One, All. -/
import Derived.Test.YtcnkcnalabjhgaaGreatDoorScan5
namespace Go.Proofs.YtcnkcnalabjhgaaGreatDoor
set_option linter.all false
open Go.RowKit

theorem TK.fill {W : World} {g : Nat} {k f t : Int} (h : TK W g k f t) (k' f' t' : Int) : TK (((W.setCell ⟨g, 0, none⟩ (.int .u8 k')).setCell ⟨g, 1, none⟩ (.int .i64 f')).setCell ⟨g, 2, none⟩ (.int .i64 t')) g k' f' t' := ((h.set0 _).set1 _).set2 _
theorem below_fill {w W : World} {g : Nat} (h : Below w.heap.size w W) (hg : w.heap.size ≤ g) (x y z : Value) : Below w.heap.size w (((W.setCell ⟨g, 0, none⟩ x).setCell ⟨g, 1, none⟩ y).setCell ⟨g, 2, none⟩ z) :=
  ((h.setCell (p := ⟨g, 0, none⟩) hg x).setCell (p := ⟨g, 1, none⟩) hg y).setCell (p := ⟨g, 2, none⟩) hg z
theorem runeStart_lead : ∀ c : Nat, c < 256 → Lib.runeStart (c : Int) = decide (c / 64 ≠ 2) := by decide +kernel
/-- What One answers. -/
def oneZ (s : ByteArray) (at' : Int) : Int × Int × Int × Int :=
  if at' < 0 ∨ (s.size : Int) ≤ at' then (0, 0, 0, 1) else if 0 ≤ clean s ∨ bt s at'.toNat / 64 = 2 then (0, 0, 0, 3) else nextZ s at'.toNat
set_option maxRecDepth 100000 in
set_option maxHeartbeats 4000000 in
theorem scan_One (s : ByteArray) (at' : Int) (hs : s.size ≤ 2147483647) (w : World) (hT : Tabs w) (hM : MaxC w) :
    Calls Tryz.prog 8 #[.string s, .int .i64 at'] w (nextPost (oneZ s at') w) := by
  have HQ : RowKit.Hid (∀ w' q, oneZ s at' = q → Below w.heap.size w w' → nextPost (oneZ s at') w (.returned (.tuple #[.agg #[.int .u8 q.1, .int .i64 q.2.1, .int .i64 q.2.2.1], .int .i64 q.2.2.2])) w') := Lib.hid fun w' q h h2 => by
    unfold nextPost; rw [h]; exact ⟨rfl, h2⟩
  have HV : RowKit.Hid (oneZ s at' = if at' < 0 ∨ (s.size : Int) ≤ at' then (0, 0, 0, 1) else if 0 ≤ clean s ∨ bt s at'.toNat / 64 = 2 then (0, 0, 0, 3) else nextZ s at'.toNat) := Lib.hid (by unfold oneZ; rfl)
  generalize nextPost (oneZ s at') w = Q at *
  have CC := Lib.hid (fun w' (hb : Below w.heap.size w w') => scan_Clean s w' (hT.below hb))
  have CN := Lib.hid (fun a ha w' (hb : Below w.heap.size w w') => scan_next' s a ha hs w' (hT.below hb) (hM.below hb))
  have HF : RowKit.Hid (∀ (tm : Array Value) W' (q : Int × Int × Int × Int), oneZ s at' = q → Below w.heap.size w W' → TK W' w.heap.size q.1 q.2.1 q.2.2.1 → tm.getD 4 undef = .pointer (some ⟨w.heap.size, 0, none⟩) → tm.getD 5 undef = .int .i64 q.2.2.2 → bodyPost Tryz.prog Tryz.f8 Q .ret ⟨tm, []⟩ W') :=
    Lib.hid fun tm W' q h1 h2 h3 h4 h5 => by
      refine bodyPost_ret (results_cell_tmp rfl tm W' w.heap.size 24 #[.int .u8 q.1, .int .i64 q.2.1, .int .i64 q.2.2.1] (0, 0) _ h4 h3 Tryz.underlying24 rfl (by kernel_rfl)) rfl ?_
      rw [h5]
      exact HQ.out W' q h1 h2
  have hT4 : TK (w.alloc (.cells #[.int .u8 0, .int .i64 0, .int .i64 0] 24)) w.heap.size 0 0 0 := by
    unfold TK; exact heap_alloc_new _ _
  have hbW : Below w.heap.size w (w.alloc (.cells #[.int .u8 0, .int .i64 0, .int .i64 0] 24)) := (Below.refl _ _).alloc (Nat.le_refl _) _
  have H4 := Lib.hid hT4
  have HBW := Lib.hid hbW
  clear hT4 hbW
  by_cases hout : at' < 0 ∨ (s.size : Int) ≤ at'
  · rw [if_pos hout] at HV
    rcases hout with h | h
    · go_enter Tryz.func8, Tryz.ntmps8
      go_wp2_with fail
      exact HF.out _ _ (0, 0, 0, 1) HV.out HBW.out H4.out rfl rfl
    · have h0 : ¬ at' < 0 := by omega
      go_enter Tryz.func8, Tryz.ntmps8
      go_wp2_with fail
      exact HF.out _ _ (0, 0, 0, 1) HV.out HBW.out H4.out rfl rfl
  · rw [if_neg hout] at HV
    obtain ⟨a, rfl⟩ : ∃ a : Nat, at' = a := ⟨at'.toNat, by omega⟩
    rw [Int.toNat_natCast] at HV
    have ha : a < s.size := by omega
    have ha' : (a : Int) < s.size := by omega
    have ha0 : (0 : Int) ≤ a := by omega
    clear hout
    have CNa := Lib.hid (CN.out a ha)
    clear CN
    have ya : ∀ h, ((s[a]'h).toNat : Int) = (bt s a : Int) := fun h => by rw [bt_at s a h]
    have CRS : RowKit.Hid (∀ w, Calls Tryz.prog 18 #[.int .u8 (bt s a : Int)] w fun e w' => e = .returned (.bool (decide (bt s a / 64 ≠ 2))) ∧ w' = w) := Lib.hid fun w => by
      have := Tryz.utf8_RuneStart (bt s a : Int) w (by omega) (by have := bt_lt s a; omega)
      rwa [runeStart_lead _ (bt_lt s a)] at this
    generalize bt s a = c at *
    generalize clean s = cl at *
    by_cases hcl : 0 ≤ cl
    · rw [if_pos (Or.inl hcl)] at HV
      go_enter Tryz.func8, Tryz.ntmps8
      go_wp2_with fail
      refine (CC.out _ HBW.out).mono ?_
      rintro e w2 ⟨rfl, hb2⟩
      have HB2 := Lib.hid (bthen HBW.out hb2)
      have H42 := Lib.hid (H4.out.keep hb2)
      clear hb2
      have z40 := H42.out.fz 0; have z41 := H42.out.fz 1; have z42 := H42.out.fz 2; have c40 := H42.out.c0; have c41 := H42.out.c1; have c42 := H42.out.c2
      go_wp2_with fail
      exact HF.out _ _ (0, 0, 0, 3) HV.out (below_fill HB2.out (Nat.le_refl _) _ _ _) (H42.out.fill _ _ _) rfl rfl
    · have hcl' : ¬ (0 : Int) ≤ cl := hcl
      by_cases hc2 : c / 64 = 2
      · rw [if_pos (Or.inr hc2)] at HV
        rw [decide_eq_false (fun h => h hc2)] at CRS
        go_enter Tryz.func8, Tryz.ntmps8
        go_wp2_with fail
        refine (CC.out _ HBW.out).mono ?_
        rintro e w2 ⟨rfl, hb2⟩
        have HB2 := Lib.hid (bthen HBW.out hb2)
        have H42 := Lib.hid (H4.out.keep hb2)
        clear hb2
        have z40 := H42.out.fz 0; have z41 := H42.out.fz 1; have z42 := H42.out.fz 2; have c40 := H42.out.c0; have c41 := H42.out.c1; have c42 := H42.out.c2
        go_wp2_with fail
        refine (CRS.out _).mono ?_
        rintro e w3 ⟨rfl, rfl⟩
        go_wp2_with fail
        exact HF.out _ _ (0, 0, 0, 3) HV.out (below_fill HB2.out (Nat.le_refl _) _ _ _) (H42.out.fill _ _ _) rfl rfl
      · rw [if_neg (fun h => h.elim hcl hc2)] at HV
        rw [decide_eq_true hc2] at CRS
        go_enter Tryz.func8, Tryz.ntmps8
        go_wp2_with fail
        refine (CC.out _ HBW.out).mono ?_
        rintro e w2 ⟨rfl, hb2⟩
        have HB2 := Lib.hid (bthen HBW.out hb2)
        have H42 := Lib.hid (H4.out.keep hb2)
        clear hb2
        have z40 := H42.out.fz 0; have z41 := H42.out.fz 1; have z42 := H42.out.fz 2; have c40 := H42.out.c0; have c41 := H42.out.c1; have c42 := H42.out.c2
        go_wp2_with fail
        refine (CRS.out _).mono ?_
        rintro e w3 ⟨rfl, rfl⟩
        go_wp2_with fail
        refine (CNa.out _ HB2.out).mono ?_
        intro e w4 h4
        unfold nextPost at h4
        obtain ⟨rfl, hb4⟩ := h4
        have HB4 := Lib.hid (bthen HB2.out hb4)
        have H44 := Lib.hid (H42.out.keep hb4)
        clear hb4 z40 z41 z42 c40 c41 c42
        have z40 := H44.out.fz 0; have z41 := H44.out.fz 1; have z42 := H44.out.fz 2; have c40 := H44.out.c0; have c41 := H44.out.c1; have c42 := H44.out.c2
        generalize nextZ s a = q at *
        obtain ⟨q1, q2, q3, q4⟩ := q
        go_wp2_with fail
        exact HF.out _ _ (q1, q2, q3, q4) HV.out (below_fill HB4.out (Nat.le_refl _) _ _ _) (H44.out.fill _ _ _) rfl rfl
end Go.Proofs.YtcnkcnalabjhgaaGreatDoor
