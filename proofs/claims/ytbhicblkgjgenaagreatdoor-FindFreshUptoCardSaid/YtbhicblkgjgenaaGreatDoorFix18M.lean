/- Layer 18: the statements' great, name and example, walked. -/
import Derived.Test.YtbhicblkgjgenaaGreatDoorAllFM
import Derived.Test.YtbhicblkgjgenaaGreatDoorEachSM
import Derived.Test.YtbhicblkgjgenaaGreatDoorSeekPM
namespace Go.Proofs.YtbhicblkgjgenaaGreatDoor
set_option linter.all false
attribute [local irreducible] Calls
open Go.RowKit

set_option maxRecDepth 100000 in
set_option maxHeartbeats 4000000 in
theorem law18_name (s : ByteArray) (w : World) : Calls Tryz.prog 31 #[.string s] w fun e w' => e = .returned (.agg #[.int .u8 26, .int .i64 0, .string s]) ∧ Below w.heap.size w w' := by
  have HX : RowKit.Hid (∀ w', Below w.heap.size w w' → (fun (e : Ending) w' => e = .returned (.agg #[.int .u8 26, .int .i64 0, .string s]) ∧ Below w.heap.size w w') (.returned (.agg #[.int .u8 26, .int .i64 0, .string s])) w') := Lib.hid fun w' h => ⟨rfl, h⟩
  generalize (fun (e : Ending) w' => e = .returned (.agg #[.int .u8 26, .int .i64 0, .string s]) ∧ Below w.heap.size w w') = Q at *
  go_enter Tryz.func31, Tryz.ntmps31
  go_wp2_with fail
  refine bodyPost_ret (v := .agg #[.int .u8 26, .int .i64 0, .string s]) ?_ rfl (HX.out _ ((Below.refl _ _).alloc (Nat.le_refl _) _))
  simp [results, Tryz.f31, go_sem]
set_option maxRecDepth 100000 in
set_option maxHeartbeats 8000000 in
theorem law18_great (rs : List RuleX) (hs : ∀ x ∈ rs, SmallR x.1) (hn : rs.length ≤ 1048576) (vr : Value) (l : List Prt) (hl : l.length ≤ 1048576) (vl : Value) (most : Int) (w : World) (hr : RulesIn w vr rs) (hlr : PartRow w vl l) :
    Calls Tryz.prog 29 #[vr, vl, .int .i64 most] w (AnyBool w) := by
  have HQ : RowKit.Hid (∀ z w', Below w.heap.size w w' → AnyBool w (.returned (.bool z)) w') := Lib.hid fun z w' hb => AnyBool.mk z hb
  generalize AnyBool w = Q at *
  have CG := Lib.hid (ref_Great rs hs hn vr 1500 w hr)
  have CY := Lib.hid (fun W (hb : Below w.heap.size w W) => ref_Ways18 rs (fun x hx => (hs x hx).h.1) hn vr l hl vl W (hr.below hb) (hlr.below hb))
  obtain ⟨ar, cr, rfl, hcr⟩ := hr.shape
  obtain ⟨al, cl, rfl, hcl⟩ := hlr.slice
  clear hs hr hlr
  have HX0 := Lib.hid (fun z => HQ.out z w (Below.refl _ _))
  go_enter Tryz.func29, Tryz.ntmps29
  by_cases h32 : (rs.length : Int) ≤ 32
  · by_cases h60 : (60 : Int) < l.length
    · go_wp2_with fail
      exact HX0.out _
    · go_wp2_with fail
      refine CG.out.mono ?_
      intro e w2 h2
      obtain ⟨y, rfl, hb2⟩ := h2.out
      have HB2 := Lib.hid hb2
      clear h2 hb2 CG
      cases y with
      | true =>
        have HX := Lib.hid (fun z => HQ.out z w2 HB2.out)
        go_wp2_with fail
        exact HX.out _
      | false =>
        go_wp2_with fail
        refine (CY.out w2 HB2.out).mono ?_
        intro e w3 h3
        obtain ⟨z, rfl, hb3⟩ := h3.out
        have HX := Lib.hid (fun z => HQ.out z w3 (bthen HB2.out hb3))
        clear h3 hb3 CY
        go_wp2_with fail
        all_goals exact HX.out _
  · go_wp2_with fail
    all_goals exact HX0.out _
theorem fallPost.fx {w0 w' : World} {e : Ending} (h : fallPost [fxR0, fxR1] fxL w0 e w') : ∃ va vc xs, e = .returned (.tuple #[.slice va 4 vc, .int .i64 0]) ∧ xs.map (·.1) = allM [fxR0, fxR1] fxL ∧ MchsIn w' (.slice va 4 vc) xs ∧ Below w0.heap.size w0 w' := by
  unfold fallPost at h
  obtain ⟨hb, v, xs, he, hxs, hown, hmem⟩ := h
  rw [fx_err] at he hxs
  rw [if_pos rfl] at hxs
  have hl : xs.length = 4 := by
    have := congrArg List.length hxs
    rw [List.length_map, fx_all] at this
    exact this
  have hr := Row.of_owns hown
  rw [hl] at hr
  obtain ⟨va, vc, rfl, _⟩ := Row.shape hr
  exact ⟨va, vc, xs, he, hxs, ⟨by rw [hl]; exact hr, fun x hx => Row.of_owns (hmem x hx)⟩, hb⟩
theorem fxR0_small : SmallR fxR0 := ⟨by decide, by decide, ⟨by decide, by decide⟩, ⟨by decide, by decide⟩, ⟨by decide, by decide⟩⟩
theorem fxR1_small : SmallR fxR1 := ⟨by decide, by decide, ⟨by decide, by decide⟩, ⟨by decide, by decide⟩, ⟨by decide, by decide⟩⟩
theorem fxL_small : SmallL fxL := ⟨by decide, by decide⟩
theorem lit_rules (w : World) (l : List RuleX) (hl : l.length ≤ 1000000) : Row (w.alloc (.cells (l.flatMap ruleV).toArray 25)) (.slice (some ⟨w.heap.size, 0, none⟩) l.length l.length) l.length 5 (l.flatMap ruleV) := by
  have e := flat_len (g := ruleV) (sz := 5) (fun _ => rfl) l
  have : (w.alloc (.cells (l.flatMap ruleV).toArray 25)).ownsRow 0 25 5 (.slice (some ⟨w.heap.size, 0, none⟩) l.length l.length) l.length (l.flatMap ruleV) := by
    refine ⟨e, Or.inr ⟨w.heap.size, l.length, (l.flatMap ruleV).toArray, rfl, Nat.zero_le _, heap_alloc_new _ _, Nat.le_refl _, by unfold maxLen; omega, by simp [e], by simp [List.take_of_length_le, e]⟩⟩
  exact Row.of_owns this
set_option maxRecDepth 100000 in
set_option maxHeartbeats 16000000 in
theorem law18_fixed (w : World) (hT : Tabs w) (hM : MaxC w) : Calls Tryz.prog 30 #[] w fun e w' => e = .returned (.bool true) ∧ Below w.heap.size w w' := by
  have HQ : RowKit.Hid (∀ w', Below w.heap.size w w' → (fun (e : Ending) w' => e = .returned (.bool true) ∧ Below w.heap.size w w') (.returned (.bool true)) w') := Lib.hid fun w' h => ⟨rfl, h⟩
  generalize (fun (e : Ending) w' => e = .returned (.bool true) ∧ Below w.heap.size w w') = Q at *
  have HT := Lib.hid hT
  have HMX := Lib.hid hM
  clear hT hM
  have HS1 : RowKit.Hid ((w.alloc (.cells #[.int .u8 37, .int .i64 2, .string ⟨#[43]⟩] 48)).heap[w.heap.size]? = some (.cells #[.int .u8 37, .int .i64 2, .string ⟨#[43]⟩] 48 (0, 0))) := Lib.hid (heap_alloc_new _ _)
  have HB1 : RowKit.Hid (Below w.heap.size w (w.alloc (.cells #[.int .u8 37, .int .i64 2, .string ⟨#[43]⟩] 48))) := Lib.hid ((Below.refl _ _).alloc (Nat.le_refl _) _)
  go_enter Tryz.func30, Tryz.ntmps30
  go_upto_region 2 with (fail)
  generalize w.alloc (.cells #[.int .u8 37, .int .i64 2, .string ⟨#[43]⟩] 48) = w1 at *
  have HK : RowKit.Hid (∀ W, Below w1.heap.size w1 W → W.cell? ⟨w.heap.size, 0, none⟩ = some (.int .u8 37) ∧ W.cell? ⟨w.heap.size, 1, none⟩ = some (.int .i64 2) ∧ W.cell? ⟨w.heap.size, 2, none⟩ = some (.string ⟨#[43]⟩)) := Lib.hid fun W hb => by
    have h1 := keeps hb HS1.out
    simp [World.cell?, h1]
  have HTM : RowKit.Hid (∀ W, Below w1.heap.size w1 W → Tabs W ∧ MaxC W) := Lib.hid fun W hb => ⟨HT.out.below (bthen HB1.out hb), HMX.out.below (bthen HB1.out hb)⟩
  have HEND : RowKit.Hid (∀ W, Below w1.heap.size w1 W → Below w.heap.size w W) := Lib.hid fun W hb => bthen HB1.out hb
  generalize hgs : w.heap.size = gs at *
  have HGS := Lib.hid hgs
  clear hgs
  refine region_cut (fun a a' w' => ∃ g, a' = (((((a.put (some 8) (.agg #[.int .u8 37, .int .i64 2, .string ⟨#[43]⟩])).put (some 9) (.agg #[.int .u8 26, .int .i64 0, .string ⟨#[120]⟩])).put (some 10) (.agg #[.int .u8 26, .int .i64 0, .string ⟨#[121]⟩])).put (some 11) (.slice (some ⟨g, 0, none⟩) 3 3)).put (some 2) (.slice (some ⟨g, 0, none⟩) 3 3)) ∧ PartRow w' (.slice (some ⟨g, 0, none⟩) 3 3) fxXY ∧ Below w1.heap.size w1 w') ?_ ?_
  · have HBd := Lib.hid (Below.refl w1.heap.size w1).drew
    have HKS : RowKit.Hid (∀ W W', Below W.heap.size W W' → ((W.cell? ⟨gs, 0, none⟩ = some (.int .u8 37) ∧ W.cell? ⟨gs, 1, none⟩ = some (.int .i64 2) ∧ W.cell? ⟨gs, 2, none⟩ = some (.string ⟨#[43]⟩)) ∧ RowKit.Hid (Below w1.heap.size w1 W)) → ((W'.cell? ⟨gs, 0, none⟩ = some (.int .u8 37) ∧ W'.cell? ⟨gs, 1, none⟩ = some (.int .i64 2) ∧ W'.cell? ⟨gs, 2, none⟩ = some (.string ⟨#[43]⟩)) ∧ RowKit.Hid (Below w1.heap.size w1 W'))) := Lib.hid fun W W' hb h => ⟨HK.out _ (h.2.out.trans (hb.mono h.2.out.size)), Lib.hid (h.2.out.trans (hb.mono h.2.out.size))⟩
    go_region_held3 (fun W => ((W.cell? ⟨gs, 0, none⟩ = some (.int .u8 37) ∧ W.cell? ⟨gs, 1, none⟩ = some (.int .i64 2) ∧ W.cell? ⟨gs, 2, none⟩ = some (.string ⟨#[43]⟩)) ∧ RowKit.Hid (Below w1.heap.size w1 W))) (first | exact ⟨HK.out _ HBd.out, HBd⟩ | exact HKS.out _ _ hb (by assumption) | exact HKS.out _ _ ((Below.refl _ _).alloc (Nat.le_refl _) _) (by assumption)) ((go_at_call 31; (with_reducible refine (law18_name _ _).mono ?_); (rintro e w4 ⟨rfl, hb⟩); (try dsimp only)))
    all_goals
      have hS := ‹(_ ∧ _ ∧ _) ∧ RowKit.Hid (Below w1.heap.size w1 (w4.alloc _))›
      exact ⟨w4.heap.size, by kernel_rfl, lit_part w4 fxXY (by decide), hS.2.out⟩
  · rintro _ w2 ⟨g, rfl, hxy, hb2⟩
    (try simp only [Act.put, List.setIfInBounds_toArray, List.set_cons_zero, List.set_cons_succ])
    have HXY := Lib.hid hxy
    have HB2 := Lib.hid hb2
    clear hxy hb2
    go_wp2_with fail
    refine (law18_name _ _).mono ?_
    rintro e w3 ⟨rfl, hb3⟩
    have HA : RowKit.Hid (PartRow (w3.alloc (.cells #[.int .u8 26, .int .i64 0, .string ⟨#[97]⟩] 48)) (.slice (some ⟨w3.heap.size, 0, none⟩) 1 1) fxA) := Lib.hid (lit_part w3 fxA (by decide))
    have HB3 := Lib.hid ((bthen HB2.out hb3).alloc (bthen HB2.out hb3).size (.cells #[.int .u8 26, .int .i64 0, .string ⟨#[97]⟩] 48))
    have HXY3 := Lib.hid ((HXY.out.below hb3).below ((Below.refl _ _).alloc (Nat.le_refl _) (.cells #[.int .u8 26, .int .i64 0, .string ⟨#[97]⟩] 48)))
    clear hb3 HXY HB2
    go_upto_region 4 with (fail)
    generalize w3.alloc (.cells #[.int .u8 26, .int .i64 0, .string ⟨#[97]⟩] 48) = w4 at *
    generalize w3.heap.size = ga at *
    have HRH : RowKit.Hid (HoleRow (w4.alloc (.cells #[.string ⟨#[120]⟩, .int .u8 1, .string ⟨#[121]⟩, .int .u8 1] 43)) (.slice (some ⟨w4.heap.size, 0, none⟩) 2 2) fxH) := Lib.hid (lit_holes w4 fxH (by decide))
    have hb5 : Below w4.heap.size w4 ((w4.alloc (.cells #[.string ⟨#[120]⟩, .int .u8 1, .string ⟨#[121]⟩, .int .u8 1] 43)).alloc (.cells #[.string ⟨#[114]⟩, .int .u8 2, .slice (some ⟨w4.heap.size, 0, none⟩) 2 2, .slice (some ⟨g, 0, none⟩) 3 3, .slice (some ⟨g, 0, none⟩) 3 3, .string ⟨#[115]⟩, .int .u8 2, .slice none 0 0, .slice (some ⟨ga, 0, none⟩) 1 1, .slice (some ⟨ga, 0, none⟩) 1 1] 25)) := ((Below.refl _ _).alloc (Nat.le_refl _) _).alloc (by simp) _
    have HRS : RowKit.Hid (RulesIn ((w4.alloc (.cells #[.string ⟨#[120]⟩, .int .u8 1, .string ⟨#[121]⟩, .int .u8 1] 43)).alloc (.cells #[.string ⟨#[114]⟩, .int .u8 2, .slice (some ⟨w4.heap.size, 0, none⟩) 2 2, .slice (some ⟨g, 0, none⟩) 3 3, .slice (some ⟨g, 0, none⟩) 3 3, .string ⟨#[115]⟩, .int .u8 2, .slice none 0 0, .slice (some ⟨ga, 0, none⟩) 1 1, .slice (some ⟨ga, 0, none⟩) 1 1] 25)) (.slice (some ⟨w4.heap.size + 1, 0, none⟩) 2 2) [(fxR0, .slice (some ⟨w4.heap.size, 0, none⟩) 2 2, .slice (some ⟨g, 0, none⟩) 3 3, .slice (some ⟨g, 0, none⟩) 3 3), (fxR1, .slice none 0 0, .slice (some ⟨ga, 0, none⟩) 1 1, .slice (some ⟨ga, 0, none⟩) 1 1)]) := Lib.hid (by
      have hh := HRH.out.below ((Below.refl _ _).alloc (Nat.le_refl _) (.cells #[.string ⟨#[114]⟩, .int .u8 2, .slice (some ⟨w4.heap.size, 0, none⟩) 2 2, .slice (some ⟨g, 0, none⟩) 3 3, .slice (some ⟨g, 0, none⟩) 3 3, .string ⟨#[115]⟩, .int .u8 2, .slice none 0 0, .slice (some ⟨ga, 0, none⟩) 1 1, .slice (some ⟨ga, 0, none⟩) 1 1] 25))
      have h0 : RuleIn _ fxR0 (.slice (some ⟨w4.heap.size, 0, none⟩) 2 2) (.slice (some ⟨g, 0, none⟩) 3 3) (.slice (some ⟨g, 0, none⟩) 3 3) := ⟨hh, HXY3.out.below hb5, HXY3.out.below hb5⟩
      have h1 : RuleIn ((w4.alloc (.cells #[.string ⟨#[120]⟩, .int .u8 1, .string ⟨#[121]⟩, .int .u8 1] 43)).alloc (.cells #[.string ⟨#[114]⟩, .int .u8 2, .slice (some ⟨w4.heap.size, 0, none⟩) 2 2, .slice (some ⟨g, 0, none⟩) 3 3, .slice (some ⟨g, 0, none⟩) 3 3, .string ⟨#[115]⟩, .int .u8 2, .slice none 0 0, .slice (some ⟨ga, 0, none⟩) 1 1, .slice (some ⟨ga, 0, none⟩) 1 1] 25)) fxR1 (.slice none 0 0) (.slice (some ⟨ga, 0, none⟩) 1 1) (.slice (some ⟨ga, 0, none⟩) 1 1) := ⟨⟨rfl, none, 0, rfl, Nat.le_refl _, fun _ => rfl, fun h => absurd h (by decide)⟩, HA.out.below hb5, HA.out.below hb5⟩
      have hl := lit_rules (w4.alloc (.cells #[.string ⟨#[120]⟩, .int .u8 1, .string ⟨#[121]⟩, .int .u8 1] 43)) [(fxR0, .slice (some ⟨w4.heap.size, 0, none⟩) 2 2, .slice (some ⟨g, 0, none⟩) 3 3, .slice (some ⟨g, 0, none⟩) 3 3), (fxR1, .slice none 0 0, .slice (some ⟨ga, 0, none⟩) 1 1, .slice (some ⟨ga, 0, none⟩) 1 1)] (by simp)
      rw [World.size_alloc] at hl
      refine ⟨hl, fun x hx => ?_⟩
      simp only [List.mem_cons, List.mem_nil_iff, or_false] at hx
      rcases hx with rfl | rfl
      · exact h0
      · exact h1)
    have HB5 := Lib.hid (bthen HB3.out hb5)
    clear hb5 HRH HXY3 HA HB3
    go_upto_region 5 with (fail)
    have hK5 : ∀ W, Below w1.heap.size w1 W → (W.cell? ⟨gs, 0, none⟩ = some (.int .u8 37) ∧ W.cell? ⟨gs, 1, none⟩ = some (.int .i64 2) ∧ W.cell? ⟨gs, 2, none⟩ = some (.string ⟨#[43]⟩)) := HK.out
    generalize (w4.alloc (.cells #[.string ⟨#[120]⟩, .int .u8 1, .string ⟨#[121]⟩, .int .u8 1] 43)).alloc (.cells #[.string ⟨#[114]⟩, .int .u8 2, .slice (some ⟨w4.heap.size, 0, none⟩) 2 2, .slice (some ⟨g, 0, none⟩) 3 3, .slice (some ⟨g, 0, none⟩) 3 3, .string ⟨#[115]⟩, .int .u8 2, .slice none 0 0, .slice (some ⟨ga, 0, none⟩) 1 1, .slice (some ⟨ga, 0, none⟩) 1 1] 25) = w5 at *
    generalize w4.heap.size = gh at *
    have HKS : RowKit.Hid (∀ W W', Below W.heap.size W W' → ((W.cell? ⟨gs, 0, none⟩ = some (.int .u8 37) ∧ W.cell? ⟨gs, 1, none⟩ = some (.int .i64 2) ∧ W.cell? ⟨gs, 2, none⟩ = some (.string ⟨#[43]⟩)) ∧ RowKit.Hid (Below w5.heap.size w5 W)) → ((W'.cell? ⟨gs, 0, none⟩ = some (.int .u8 37) ∧ W'.cell? ⟨gs, 1, none⟩ = some (.int .i64 2) ∧ W'.cell? ⟨gs, 2, none⟩ = some (.string ⟨#[43]⟩)) ∧ RowKit.Hid (Below w5.heap.size w5 W'))) := Lib.hid fun W W' hb h => ⟨HK.out _ (HB5.out.trans ((h.2.out.trans (hb.mono h.2.out.size)).mono HB5.out.size)), Lib.hid (h.2.out.trans (hb.mono h.2.out.size))⟩
    clear hK5
    have HBd := Lib.hid (Below.refl w5.heap.size w5).drew
    have HS0 := Lib.hid (HK.out _ (HB5.out.trans (HBd.out.mono HB5.out.size)))
    have CFA := Lib.hid (fun W (hb : Below w5.heap.size w5 (W.alloc (.cells #[.int .u8 37, .int .i64 2, .string ⟨#[43]⟩, .int .u8 37, .int .i64 2, .string ⟨#[43]⟩, .int .u8 26, .int .i64 0, .string ⟨#[97]⟩, .int .u8 26, .int .i64 0, .string ⟨#[98]⟩, .int .u8 26, .int .i64 0, .string ⟨#[97]⟩] 48))) => find_All [(fxR0, .slice (some ⟨gh, 0, none⟩) 2 2, .slice (some ⟨g, 0, none⟩) 3 3, .slice (some ⟨g, 0, none⟩) 3 3), (fxR1, .slice none 0 0, .slice (some ⟨ga, 0, none⟩) 1 1, .slice (some ⟨ga, 0, none⟩) 1 1)] (by intro x hx; simp only [List.mem_cons, List.mem_nil_iff, or_false] at hx; rcases hx with rfl | rfl; exact fxR0_small; exact fxR1_small) fxL fxL_small _ _ (W.alloc (.cells #[.int .u8 37, .int .i64 2, .string ⟨#[43]⟩, .int .u8 37, .int .i64 2, .string ⟨#[43]⟩, .int .u8 26, .int .i64 0, .string ⟨#[97]⟩, .int .u8 26, .int .i64 0, .string ⟨#[98]⟩, .int .u8 26, .int .i64 0, .string ⟨#[97]⟩] 48)) (HTM.out _ (bthen HB5.out hb)).1 (HTM.out _ (bthen HB5.out hb)).2 (HRS.out.below hb) (lit_part W fxL (by decide)))
    refine region_cut (fun a a' w' => ∃ (gl : Nat) (va : Option Addr) (vc : Nat) (xs : List MchX), a' = (((((((((((((a.put (some 25) (.slice (some ⟨gh + 1, 0, none⟩) 2 2)).put (some 26) (.agg #[.int .u8 37, .int .i64 2, .string ⟨#[43]⟩])).put (some 27) (.agg #[.int .u8 37, .int .i64 2, .string ⟨#[43]⟩])).put (some 28) (.agg #[.int .u8 26, .int .i64 0, .string ⟨#[97]⟩])).put (some 29) (.agg #[.int .u8 26, .int .i64 0, .string ⟨#[98]⟩])).put (some 30) (.agg #[.int .u8 26, .int .i64 0, .string ⟨#[97]⟩])).put (some 31) (.slice (some ⟨gl, 0, none⟩) 5 5)).put (some 32) (.tuple #[.slice va 4 vc, .int .i64 0])).put (some 24) (.tuple #[.slice va 4 vc, .int .i64 0])).put (some 33) (.slice va 4 vc)).put (some 34) (.int .i64 0)).put (some 5) (.slice va 4 vc)).put (some 6) (.int .i64 0)) ∧ xs.map (·.1) = allM [fxR0, fxR1] fxL ∧ MchsIn w' (.slice va 4 vc) xs ∧ Below w5.heap.size w5 w') ?_ ?_
    · go_region_held3 (fun W => ((W.cell? ⟨gs, 0, none⟩ = some (.int .u8 37) ∧ W.cell? ⟨gs, 1, none⟩ = some (.int .i64 2) ∧ W.cell? ⟨gs, 2, none⟩ = some (.string ⟨#[43]⟩)) ∧ RowKit.Hid (Below w5.heap.size w5 W))) (first | exact ⟨HS0.out, HBd⟩ | exact HKS.out _ _ hb (by assumption) | exact HKS.out _ _ ((Below.refl _ _).alloc (Nat.le_refl _) _) (by assumption)) (first | (go_at_call 31; (with_reducible refine (law18_name _ _).mono ?_); (rintro e w6 ⟨rfl, hb⟩); (try dsimp only)) | (go_at_call 32; (refine (CFA.out _ (‹(_ ∧ _ ∧ _) ∧ RowKit.Hid (Below w5.heap.size w5 (World.alloc _ _))›).2.out).mono ?_); (intro e w7 hp); (obtain ⟨va, vc, xs, rfl, hxs, hms, hb⟩ := hp.fx); (try dsimp only)))
      all_goals
        have hS := ‹(_ ∧ _ ∧ _) ∧ RowKit.Hid (Below w5.heap.size w5 w7)›
        exact ⟨w6.heap.size, va, vc, xs, by kernel_rfl, hxs, hms, hS.2.out⟩
    · rintro _ w6 ⟨gl, va, vc, xs, rfl, hxs, hms, hb6⟩
      (try simp only [Act.put, List.setIfInBounds_toArray, List.set_cons_zero, List.set_cons_succ])
      rw [fx_all] at hxs
      obtain ⟨x0, x1, x2, x3, rfl⟩ : ∃ x0 x1 x2 x3, xs = [x0, x1, x2, x3] := by
        have hl := congrArg List.length hxs
        rw [List.length_map] at hl
        match xs, hl with
        | [a, b, c, d], _ => exact ⟨a, b, c, d, rfl⟩
      simp only [List.map_cons, List.map_nil, List.cons.injEq, and_true] at hxs
      obtain ⟨q0, q1, q2, q3⟩ := hxs
      obtain ⟨b, off, rfl, hvc, _, hcell⟩ := hms.at (Below.refl _ _) (by simp)
      have k0 := hcell 0 (by simp)
      have k2 := hcell 2 (by simp)
      have k3 := hcell 3 (by simp)
      simp only [List.getElem_cons_zero, List.getElem_cons_succ, q0, q2, q3] at k0 k2 k3
      obtain ⟨_, c01, c02⟩ := k0
      obtain ⟨c20, c21, _⟩ := k2
      obtain ⟨_, c31, _⟩ := k3
      have e0 : BindRow w6 x0.2 x0.1.2.2 := hms.E x0 (by simp)
      rw [q0] at e0
      generalize x0.2 = v0 at *
      obtain ⟨a0, n0, rfl, hn0⟩ : ∃ a c, v0 = .slice a 2 c ∧ 2 ≤ c := Row.shape e0
      have c01 : w6.cell? ⟨b, off + 1, none⟩ = some (.int .i64 0) := c01
      have c02 : w6.cell? ⟨b, off + 2, none⟩ = some (.slice a0 2 n0) := c02
      have c20 : w6.cell? ⟨b, off + 6, none⟩ = some (.int .i64 1) := c20
      have c21 : w6.cell? ⟨b, off + 7, none⟩ = some (.int .i64 2) := c21
      have c31 : w6.cell? ⟨b, off + 10, none⟩ = some (.int .i64 4) := c31
      have HLB : RowKit.Hid (BindRow (w6.alloc (.cells #[.string ⟨#[120]⟩, .int .i64 1, .int .i64 4, .string ⟨#[121]⟩, .int .i64 4, .int .i64 5] 41)) (.slice (some ⟨w6.heap.size, 0, none⟩) 2 2) [(⟨#[120]⟩, 1, 4), (⟨#[121]⟩, 4, 5)]) := Lib.hid (lit_binds w6 [(⟨#[120]⟩, 1, 4), (⟨#[121]⟩, 4, 5)] (by decide))
      have hb7 : Below w6.heap.size w6 (w6.alloc (.cells #[.string ⟨#[120]⟩, .int .i64 1, .int .i64 4, .string ⟨#[121]⟩, .int .i64 4, .int .i64 5] 41)) := (Below.refl _ _).alloc (Nat.le_refl _) _
      have CS := Lib.hid (ref_SameBinds _ _ (by decide) (by decide) _ _ _ (e0.below hb7) HLB.out)
      have HEND2 := Lib.hid (HEND.out _ (bthen HB5.out (bthen hb6 hb7)))
      have hz := HEND2.out.size
      clear hcell hms hb6 hb7 e0 q0 q1 q2 q3
      go_wp2_with fail
      refine CS.out.mono ?_
      rintro e w8 ⟨y, rfl, ht, hb8⟩
      obtain rfl := ht.2 rfl
      have HX := Lib.hid (HQ.out w8 (HEND2.out.trans (hb8.mono (HGS.out ▸ hz))))
      clear hb8 CS ht
      go_wp2_with fail
      exact HX.out
end Go.Proofs.YtbhicblkgjgenaaGreatDoor
