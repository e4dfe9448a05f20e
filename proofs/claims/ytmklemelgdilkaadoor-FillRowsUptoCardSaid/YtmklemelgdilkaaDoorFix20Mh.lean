/- Layer 20: the statements' name, pair, one, great and example, walked (printed by tools/genfix20.py). -/
import Derived.Test.YtmklemelgdilkaaDoorStepCMh
import Derived.Test.YtmklemelgdilkaaDoorRightPMh
import Derived.Test.YtmklemelgdilkaaDoorTermSameMh
import Derived.Test.YtmklemelgdilkaaDoorTermQMh
namespace Go.Proofs.YtmklemelgdilkaaDoor
set_option linter.all false
attribute [local irreducible] Calls
attribute [local irreducible] wpStill
open Go.RowKit

set_option maxRecDepth 100000 in
set_option maxHeartbeats 4000000 in
theorem law20_name (s : ByteArray) (w : World) : Calls Tryd.prog 14 #[.string s] w fun e w' => e = .returned (.agg #[.int .u8 26, .int .i64 0, .string s]) ∧ Below w.heap.size w w' := by
 have HX : RowKit.Hid (∀ w', Below w.heap.size w w' → (fun (e : Ending) w' => e = .returned (.agg #[.int .u8 26, .int .i64 0, .string s]) ∧ Below w.heap.size w w') (.returned (.agg #[.int .u8 26, .int .i64 0, .string s])) w') := Lib.hid fun w' h => ⟨rfl, h⟩
 generalize (fun (e : Ending) w' => e = .returned (.agg #[.int .u8 26, .int .i64 0, .string s]) ∧ Below w.heap.size w w') = Q at *
 go_enter Tryd.func14, Tryd.ntmps14
 go_wp2_with fail
 refine bodyPost_ret (v := .agg #[.int .u8 26, .int .i64 0, .string s]) ?_ rfl (HX.out _ ((Below.refl _ _).alloc (Nat.le_refl _) _))
 simp [results, Tryd.f14, go_sem]
set_option maxRecDepth 100000 in
set_option maxHeartbeats 4000000 in
theorem law20_pair (s : ByteArray) (w : World) : Calls Tryd.prog 17 #[.string s] w fun e w' => e = .returned (.agg #[.int .u8 37, .int .i64 2, .string s]) ∧ Below w.heap.size w w' := by
 have HX : RowKit.Hid (∀ w', Below w.heap.size w w' → (fun (e : Ending) w' => e = .returned (.agg #[.int .u8 37, .int .i64 2, .string s]) ∧ Below w.heap.size w w') (.returned (.agg #[.int .u8 37, .int .i64 2, .string s])) w') := Lib.hid fun w' h => ⟨rfl, h⟩
 generalize (fun (e : Ending) w' => e = .returned (.agg #[.int .u8 37, .int .i64 2, .string s]) ∧ Below w.heap.size w w') = Q at *
 go_enter Tryd.func17, Tryd.ntmps17
 go_wp2_with fail
 refine bodyPost_ret (v := .agg #[.int .u8 37, .int .i64 2, .string s]) ?_ rfl (HX.out _ ((Below.refl _ _).alloc (Nat.le_refl _) _))
 simp [results, Tryd.f17, go_sem]
theorem lit_rowG (w : World) (C : Array Value) (T : TypeId) (n sz : Nat) (h : C.size = n * sz) : Row (w.alloc (.cells C T)) (.slice (some ⟨w.heap.size, 0, none⟩) n n) n sz C.toList :=
 ⟨by simpa using h, some ⟨w.heap.size, 0, none⟩, n, rfl, Nat.le_refl _, by simp, fun _ => ⟨w.heap.size, 0, rfl, by simp, fun i _ => by rw [Nat.zero_add, World.cell?_alloc_at _ _ _ _ rfl]; simp⟩⟩
def fyH : List Hl := [(⟨#[120]⟩, 1), (⟨#[121]⟩, 1)]
def fyF : List Prt := [(37, 2, ⟨#[42]⟩), (26, 0, ⟨#[120]⟩), (26, 0, ⟨#[121]⟩)]
def fyY : List Prt := [(37, 2, ⟨#[43]⟩), (26, 0, ⟨#[120]⟩), (26, 0, ⟨#[121]⟩)]
def fyR : RuleM := ⟨⟨#[114]⟩, 2, fyH, fyF, fyY⟩
def fyL : List Prt := [(37, 2, ⟨#[42]⟩), (37, 2, ⟨#[42]⟩), (26, 0, ⟨#[97]⟩), (26, 0, ⟨#[98]⟩), (26, 0, ⟨#[99]⟩)]
def fyB : List Bnd := [(⟨#[120]⟩, 2, 3), (⟨#[121]⟩, 3, 4)]
def fyO : List Prt := [(37, 2, ⟨#[42]⟩), (28, 1, ⟨#[]⟩), (37, 2, ⟨#[43]⟩), (26, 0, ⟨#[97]⟩), (26, 0, ⟨#[98]⟩), (26, 0, ⟨#[99]⟩)]
def fyN : List Int := [0, -1, -1, 2, 3, 4]
theorem fy_step : stepZ [fyR] fyL [(0, 1, fyB)] = (fyO.zip fyN, 0) := by decide +kernel
theorem fyR_small : SmallR fyR := ⟨by decide, by decide, ⟨by decide, by decide⟩, ⟨by decide, by decide⟩, ⟨by decide, by decide⟩⟩
theorem fyL_small : SmallL fyL := ⟨by decide, by decide⟩
set_option maxRecDepth 100000 in
set_option maxHeartbeats 16000000 in
theorem law20_fixed (w : World) (hT : Tabs w) (hM : MaxC w) : Calls Tryd.prog 7 #[] w fun e w' => e = .returned (.bool true) ∧ Below w.heap.size w w' := by
 have HQ : RowKit.Hid (∀ w', Below w.heap.size w w' → (fun (e : Ending) w' => e = .returned (.bool true) ∧ Below w.heap.size w w') (.returned (.bool true)) w') := Lib.hid fun w' h => ⟨rfl, h⟩
 generalize (fun (e : Ending) w' => e = .returned (.bool true) ∧ Below w.heap.size w w') = Q at *
 have HT := Lib.hid hT
 have HMX := Lib.hid hM
 clear hT hM
 have HB0 : RowKit.Hid (Below w.heap.size w w) := Lib.hid (Below.refl _ _)
 go_enter Tryd.func7, Tryd.ntmps7
 have HB1 := Lib.hid (bthen HB0.out ((Below.refl w.heap.size w).alloc (Nat.le_refl _) (.cells #[.string ⟨#[120]⟩, .int .u8 1, .string ⟨#[121]⟩, .int .u8 1] 51)))
 have FH_1 : RowKit.Hid (HoleRow (w.alloc (.cells #[.string ⟨#[120]⟩, .int .u8 1, .string ⟨#[121]⟩, .int .u8 1] 51)) (.slice (some ⟨w.heap.size, 0, none⟩) 2 2) fyH) := Lib.hid (lit_rowG w #[.string ⟨#[120]⟩, .int .u8 1, .string ⟨#[121]⟩, .int .u8 1] 51 2 2 rfl)
 go_wp2_with fail
 refine (law20_pair _ _).mono ?_
 rintro e w2 ⟨rfl, hb⟩
 have HB2 := Lib.hid (bthen HB1.out hb)
 have FH_2 := Lib.hid (FH_1.out.below hb)
 clear hb HB1 FH_1
 go_wp2_with fail
 refine (law20_name _ _).mono ?_
 rintro e w3 ⟨rfl, hb⟩
 have HB3 := Lib.hid (bthen HB2.out hb)
 have FH_3 := Lib.hid (FH_2.out.below hb)
 clear hb HB2 FH_2
 go_wp2_with fail
 refine (law20_name _ _).mono ?_
 rintro e w4 ⟨rfl, hb⟩
 have HB4 := Lib.hid (bthen HB3.out hb)
 have FH_4 := Lib.hid (FH_3.out.below hb)
 clear hb HB3 FH_3
 have HB5 := Lib.hid (bthen HB4.out ((Below.refl w4.heap.size w4).alloc (Nat.le_refl _) (.cells #[.int .u8 37, .int .i64 2, .string ⟨#[42]⟩, .int .u8 26, .int .i64 0, .string ⟨#[120]⟩, .int .u8 26, .int .i64 0, .string ⟨#[121]⟩] 38)))
 have FH_5 := Lib.hid (FH_4.out.below ((Below.refl w4.heap.size w4).alloc (Nat.le_refl _) (.cells #[.int .u8 37, .int .i64 2, .string ⟨#[42]⟩, .int .u8 26, .int .i64 0, .string ⟨#[120]⟩, .int .u8 26, .int .i64 0, .string ⟨#[121]⟩] 38)))
 have FF_5 : RowKit.Hid (PartRow (w4.alloc (.cells #[.int .u8 37, .int .i64 2, .string ⟨#[42]⟩, .int .u8 26, .int .i64 0, .string ⟨#[120]⟩, .int .u8 26, .int .i64 0, .string ⟨#[121]⟩] 38)) (.slice (some ⟨w4.heap.size, 0, none⟩) 3 3) fyF) := Lib.hid (lit_rowG w4 #[.int .u8 37, .int .i64 2, .string ⟨#[42]⟩, .int .u8 26, .int .i64 0, .string ⟨#[120]⟩, .int .u8 26, .int .i64 0, .string ⟨#[121]⟩] 38 3 3 rfl)
 clear HB4 FH_4
 go_wp2_with fail
 refine (law20_pair _ _).mono ?_
 rintro e w6 ⟨rfl, hb⟩
 have HB6 := Lib.hid (bthen HB5.out hb)
 have FH_6 := Lib.hid (FH_5.out.below hb)
 have FF_6 := Lib.hid (FF_5.out.below hb)
 clear hb HB5 FH_5 FF_5
 go_wp2_with fail
 refine (law20_name _ _).mono ?_
 rintro e w7 ⟨rfl, hb⟩
 have HB7 := Lib.hid (bthen HB6.out hb)
 have FH_7 := Lib.hid (FH_6.out.below hb)
 have FF_7 := Lib.hid (FF_6.out.below hb)
 clear hb HB6 FH_6 FF_6
 go_wp2_with fail
 refine (law20_name _ _).mono ?_
 rintro e w8 ⟨rfl, hb⟩
 have HB8 := Lib.hid (bthen HB7.out hb)
 have FH_8 := Lib.hid (FH_7.out.below hb)
 have FF_8 := Lib.hid (FF_7.out.below hb)
 clear hb HB7 FH_7 FF_7
 have HB9 := Lib.hid (bthen HB8.out ((Below.refl w8.heap.size w8).alloc (Nat.le_refl _) (.cells #[.int .u8 37, .int .i64 2, .string ⟨#[43]⟩, .int .u8 26, .int .i64 0, .string ⟨#[120]⟩, .int .u8 26, .int .i64 0, .string ⟨#[121]⟩] 38)))
 have FH_9 := Lib.hid (FH_8.out.below ((Below.refl w8.heap.size w8).alloc (Nat.le_refl _) (.cells #[.int .u8 37, .int .i64 2, .string ⟨#[43]⟩, .int .u8 26, .int .i64 0, .string ⟨#[120]⟩, .int .u8 26, .int .i64 0, .string ⟨#[121]⟩] 38)))
 have FF_9 := Lib.hid (FF_8.out.below ((Below.refl w8.heap.size w8).alloc (Nat.le_refl _) (.cells #[.int .u8 37, .int .i64 2, .string ⟨#[43]⟩, .int .u8 26, .int .i64 0, .string ⟨#[120]⟩, .int .u8 26, .int .i64 0, .string ⟨#[121]⟩] 38)))
 have FY_9 : RowKit.Hid (PartRow (w8.alloc (.cells #[.int .u8 37, .int .i64 2, .string ⟨#[43]⟩, .int .u8 26, .int .i64 0, .string ⟨#[120]⟩, .int .u8 26, .int .i64 0, .string ⟨#[121]⟩] 38)) (.slice (some ⟨w8.heap.size, 0, none⟩) 3 3) fyY) := Lib.hid (lit_rowG w8 #[.int .u8 37, .int .i64 2, .string ⟨#[43]⟩, .int .u8 26, .int .i64 0, .string ⟨#[120]⟩, .int .u8 26, .int .i64 0, .string ⟨#[121]⟩] 38 3 3 rfl)
 clear HB8 FH_8 FF_8
 have HRK : RowKit.Hid (RK ((w8.alloc (.cells #[.int .u8 37, .int .i64 2, .string ⟨#[43]⟩, .int .u8 26, .int .i64 0, .string ⟨#[120]⟩, .int .u8 26, .int .i64 0, .string ⟨#[121]⟩] 38)).alloc (.cells #[.string ⟨#[114]⟩, .int .u8 2, .slice (some ⟨w.heap.size, 0, none⟩) 2 2, .slice (some ⟨w4.heap.size, 0, none⟩) 3 3, .slice (some ⟨w8.heap.size, 0, none⟩) 3 3] 43)) (w8.alloc (.cells #[.int .u8 37, .int .i64 2, .string ⟨#[43]⟩, .int .u8 26, .int .i64 0, .string ⟨#[120]⟩, .int .u8 26, .int .i64 0, .string ⟨#[121]⟩] 38)).heap.size ⟨#[114]⟩ 2 (.slice (some ⟨w.heap.size, 0, none⟩) 2 2) (.slice (some ⟨w4.heap.size, 0, none⟩) 3 3) (.slice (some ⟨w8.heap.size, 0, none⟩) 3 3)) := Lib.hid (heap_alloc_new _ _)
 rw [World.size_alloc] at HRK
 have HB10 := Lib.hid (bthen HB9.out ((Below.refl (w8.alloc (.cells #[.int .u8 37, .int .i64 2, .string ⟨#[43]⟩, .int .u8 26, .int .i64 0, .string ⟨#[120]⟩, .int .u8 26, .int .i64 0, .string ⟨#[121]⟩] 38)).heap.size (w8.alloc (.cells #[.int .u8 37, .int .i64 2, .string ⟨#[43]⟩, .int .u8 26, .int .i64 0, .string ⟨#[120]⟩, .int .u8 26, .int .i64 0, .string ⟨#[121]⟩] 38))).alloc (Nat.le_refl _) (.cells #[.string ⟨#[114]⟩, .int .u8 2, .slice (some ⟨w.heap.size, 0, none⟩) 2 2, .slice (some ⟨w4.heap.size, 0, none⟩) 3 3, .slice (some ⟨w8.heap.size, 0, none⟩) 3 3] 43)))
 have FH_10 := Lib.hid (FH_9.out.below ((Below.refl (w8.alloc (.cells #[.int .u8 37, .int .i64 2, .string ⟨#[43]⟩, .int .u8 26, .int .i64 0, .string ⟨#[120]⟩, .int .u8 26, .int .i64 0, .string ⟨#[121]⟩] 38)).heap.size (w8.alloc (.cells #[.int .u8 37, .int .i64 2, .string ⟨#[43]⟩, .int .u8 26, .int .i64 0, .string ⟨#[120]⟩, .int .u8 26, .int .i64 0, .string ⟨#[121]⟩] 38))).alloc (Nat.le_refl _) (.cells #[.string ⟨#[114]⟩, .int .u8 2, .slice (some ⟨w.heap.size, 0, none⟩) 2 2, .slice (some ⟨w4.heap.size, 0, none⟩) 3 3, .slice (some ⟨w8.heap.size, 0, none⟩) 3 3] 43)))
 have FF_10 := Lib.hid (FF_9.out.below ((Below.refl (w8.alloc (.cells #[.int .u8 37, .int .i64 2, .string ⟨#[43]⟩, .int .u8 26, .int .i64 0, .string ⟨#[120]⟩, .int .u8 26, .int .i64 0, .string ⟨#[121]⟩] 38)).heap.size (w8.alloc (.cells #[.int .u8 37, .int .i64 2, .string ⟨#[43]⟩, .int .u8 26, .int .i64 0, .string ⟨#[120]⟩, .int .u8 26, .int .i64 0, .string ⟨#[121]⟩] 38))).alloc (Nat.le_refl _) (.cells #[.string ⟨#[114]⟩, .int .u8 2, .slice (some ⟨w.heap.size, 0, none⟩) 2 2, .slice (some ⟨w4.heap.size, 0, none⟩) 3 3, .slice (some ⟨w8.heap.size, 0, none⟩) 3 3] 43)))
 have FY_10 := Lib.hid (FY_9.out.below ((Below.refl (w8.alloc (.cells #[.int .u8 37, .int .i64 2, .string ⟨#[43]⟩, .int .u8 26, .int .i64 0, .string ⟨#[120]⟩, .int .u8 26, .int .i64 0, .string ⟨#[121]⟩] 38)).heap.size (w8.alloc (.cells #[.int .u8 37, .int .i64 2, .string ⟨#[43]⟩, .int .u8 26, .int .i64 0, .string ⟨#[120]⟩, .int .u8 26, .int .i64 0, .string ⟨#[121]⟩] 38))).alloc (Nat.le_refl _) (.cells #[.string ⟨#[114]⟩, .int .u8 2, .slice (some ⟨w.heap.size, 0, none⟩) 2 2, .slice (some ⟨w4.heap.size, 0, none⟩) 3 3, .slice (some ⟨w8.heap.size, 0, none⟩) 3 3] 43)))
 clear HB9 FH_9 FF_9 FY_9
 go_upto_region 2 with (fail)
 generalize ((w8.alloc (.cells #[.int .u8 37, .int .i64 2, .string ⟨#[43]⟩, .int .u8 26, .int .i64 0, .string ⟨#[120]⟩, .int .u8 26, .int .i64 0, .string ⟨#[121]⟩] 38)).alloc (.cells #[.string ⟨#[114]⟩, .int .u8 2, .slice (some ⟨w.heap.size, 0, none⟩) 2 2, .slice (some ⟨w4.heap.size, 0, none⟩) 3 3, .slice (some ⟨w8.heap.size, 0, none⟩) 3 3] 43)) = wR at *
 have HRS : RowKit.Hid True := Lib.hid trivial
 go_wp2_with fail
 refine (law20_pair _ _).mono ?_
 rintro e w11 ⟨rfl, hb⟩
 have HB11 := Lib.hid (bthen HB10.out hb)
 have FH_11 := Lib.hid (FH_10.out.below hb)
 have FF_11 := Lib.hid (FF_10.out.below hb)
 have FY_11 := Lib.hid (FY_10.out.below hb)
 have HRK_11 := Lib.hid (HRK.out.below hb)
 clear hb HB10 FH_10 FF_10 FY_10 HRK
 go_wp2_with fail
 refine (law20_pair _ _).mono ?_
 rintro e w12 ⟨rfl, hb⟩
 have HB12 := Lib.hid (bthen HB11.out hb)
 have FH_12 := Lib.hid (FH_11.out.below hb)
 have FF_12 := Lib.hid (FF_11.out.below hb)
 have FY_12 := Lib.hid (FY_11.out.below hb)
 have HRK_12 := Lib.hid (HRK_11.out.below hb)
 clear hb HB11 FH_11 FF_11 FY_11 HRK_11
 go_wp2_with fail
 refine (law20_name _ _).mono ?_
 rintro e w13 ⟨rfl, hb⟩
 have HB13 := Lib.hid (bthen HB12.out hb)
 have FH_13 := Lib.hid (FH_12.out.below hb)
 have FF_13 := Lib.hid (FF_12.out.below hb)
 have FY_13 := Lib.hid (FY_12.out.below hb)
 have HRK_13 := Lib.hid (HRK_12.out.below hb)
 clear hb HB12 FH_12 FF_12 FY_12 HRK_12
 go_wp2_with fail
 refine (law20_name _ _).mono ?_
 rintro e w14 ⟨rfl, hb⟩
 have HB14 := Lib.hid (bthen HB13.out hb)
 have FH_14 := Lib.hid (FH_13.out.below hb)
 have FF_14 := Lib.hid (FF_13.out.below hb)
 have FY_14 := Lib.hid (FY_13.out.below hb)
 have HRK_14 := Lib.hid (HRK_13.out.below hb)
 clear hb HB13 FH_13 FF_13 FY_13 HRK_13
 go_wp2_with fail
 refine (law20_name _ _).mono ?_
 rintro e w15 ⟨rfl, hb⟩
 have HB15 := Lib.hid (bthen HB14.out hb)
 have FH_15 := Lib.hid (FH_14.out.below hb)
 have FF_15 := Lib.hid (FF_14.out.below hb)
 have FY_15 := Lib.hid (FY_14.out.below hb)
 have HRK_15 := Lib.hid (HRK_14.out.below hb)
 clear hb HB14 FH_14 FF_14 FY_14 HRK_14
 have HB16 := Lib.hid (bthen HB15.out ((Below.refl w15.heap.size w15).alloc (Nat.le_refl _) (.cells #[.int .u8 37, .int .i64 2, .string ⟨#[42]⟩, .int .u8 37, .int .i64 2, .string ⟨#[42]⟩, .int .u8 26, .int .i64 0, .string ⟨#[97]⟩, .int .u8 26, .int .i64 0, .string ⟨#[98]⟩, .int .u8 26, .int .i64 0, .string ⟨#[99]⟩] 38)))
 have FH_16 := Lib.hid (FH_15.out.below ((Below.refl w15.heap.size w15).alloc (Nat.le_refl _) (.cells #[.int .u8 37, .int .i64 2, .string ⟨#[42]⟩, .int .u8 37, .int .i64 2, .string ⟨#[42]⟩, .int .u8 26, .int .i64 0, .string ⟨#[97]⟩, .int .u8 26, .int .i64 0, .string ⟨#[98]⟩, .int .u8 26, .int .i64 0, .string ⟨#[99]⟩] 38)))
 have FF_16 := Lib.hid (FF_15.out.below ((Below.refl w15.heap.size w15).alloc (Nat.le_refl _) (.cells #[.int .u8 37, .int .i64 2, .string ⟨#[42]⟩, .int .u8 37, .int .i64 2, .string ⟨#[42]⟩, .int .u8 26, .int .i64 0, .string ⟨#[97]⟩, .int .u8 26, .int .i64 0, .string ⟨#[98]⟩, .int .u8 26, .int .i64 0, .string ⟨#[99]⟩] 38)))
 have FY_16 := Lib.hid (FY_15.out.below ((Below.refl w15.heap.size w15).alloc (Nat.le_refl _) (.cells #[.int .u8 37, .int .i64 2, .string ⟨#[42]⟩, .int .u8 37, .int .i64 2, .string ⟨#[42]⟩, .int .u8 26, .int .i64 0, .string ⟨#[97]⟩, .int .u8 26, .int .i64 0, .string ⟨#[98]⟩, .int .u8 26, .int .i64 0, .string ⟨#[99]⟩] 38)))
 have HRK_16 := Lib.hid (HRK_15.out.below ((Below.refl w15.heap.size w15).alloc (Nat.le_refl _) (.cells #[.int .u8 37, .int .i64 2, .string ⟨#[42]⟩, .int .u8 37, .int .i64 2, .string ⟨#[42]⟩, .int .u8 26, .int .i64 0, .string ⟨#[97]⟩, .int .u8 26, .int .i64 0, .string ⟨#[98]⟩, .int .u8 26, .int .i64 0, .string ⟨#[99]⟩] 38)))
 have FL_16 : RowKit.Hid (PartRow (w15.alloc (.cells #[.int .u8 37, .int .i64 2, .string ⟨#[42]⟩, .int .u8 37, .int .i64 2, .string ⟨#[42]⟩, .int .u8 26, .int .i64 0, .string ⟨#[97]⟩, .int .u8 26, .int .i64 0, .string ⟨#[98]⟩, .int .u8 26, .int .i64 0, .string ⟨#[99]⟩] 38)) (.slice (some ⟨w15.heap.size, 0, none⟩) 5 5) fyL) := Lib.hid (lit_rowG w15 #[.int .u8 37, .int .i64 2, .string ⟨#[42]⟩, .int .u8 37, .int .i64 2, .string ⟨#[42]⟩, .int .u8 26, .int .i64 0, .string ⟨#[97]⟩, .int .u8 26, .int .i64 0, .string ⟨#[98]⟩, .int .u8 26, .int .i64 0, .string ⟨#[99]⟩] 38 5 3 rfl)
 clear HB15 FH_15 FF_15 FY_15 HRK_15
 go_upto_region 3 with (fail)
 generalize hg3 : w15.alloc (.cells #[.int .u8 37, .int .i64 2, .string ⟨#[42]⟩, .int .u8 37, .int .i64 2, .string ⟨#[42]⟩, .int .u8 26, .int .i64 0, .string ⟨#[97]⟩, .int .u8 26, .int .i64 0, .string ⟨#[98]⟩, .int .u8 26, .int .i64 0, .string ⟨#[99]⟩] 38) = wL at *
 clear hg3
 obtain ⟨e0, e1, e2, e3, e4⟩ := HRK_16.out.cells
 have HB17 := Lib.hid (bthen HB16.out ((Below.refl wL.heap.size wL).alloc (Nat.le_refl _) (.cells #[.string ⟨#[114]⟩, .int .u8 2, .slice (some ⟨w.heap.size, 0, none⟩) 2 2, .slice (some ⟨w4.heap.size, 0, none⟩) 3 3, .slice (some ⟨w8.heap.size, 0, none⟩) 3 3] 43)))
 have FH_17 := Lib.hid (FH_16.out.below ((Below.refl wL.heap.size wL).alloc (Nat.le_refl _) (.cells #[.string ⟨#[114]⟩, .int .u8 2, .slice (some ⟨w.heap.size, 0, none⟩) 2 2, .slice (some ⟨w4.heap.size, 0, none⟩) 3 3, .slice (some ⟨w8.heap.size, 0, none⟩) 3 3] 43)))
 have FF_17 := Lib.hid (FF_16.out.below ((Below.refl wL.heap.size wL).alloc (Nat.le_refl _) (.cells #[.string ⟨#[114]⟩, .int .u8 2, .slice (some ⟨w.heap.size, 0, none⟩) 2 2, .slice (some ⟨w4.heap.size, 0, none⟩) 3 3, .slice (some ⟨w8.heap.size, 0, none⟩) 3 3] 43)))
 have FY_17 := Lib.hid (FY_16.out.below ((Below.refl wL.heap.size wL).alloc (Nat.le_refl _) (.cells #[.string ⟨#[114]⟩, .int .u8 2, .slice (some ⟨w.heap.size, 0, none⟩) 2 2, .slice (some ⟨w4.heap.size, 0, none⟩) 3 3, .slice (some ⟨w8.heap.size, 0, none⟩) 3 3] 43)))
 have HRK_17 := Lib.hid (HRK_16.out.below ((Below.refl wL.heap.size wL).alloc (Nat.le_refl _) (.cells #[.string ⟨#[114]⟩, .int .u8 2, .slice (some ⟨w.heap.size, 0, none⟩) 2 2, .slice (some ⟨w4.heap.size, 0, none⟩) 3 3, .slice (some ⟨w8.heap.size, 0, none⟩) 3 3] 43)))
 have FL_17 := Lib.hid (FL_16.out.below ((Below.refl wL.heap.size wL).alloc (Nat.le_refl _) (.cells #[.string ⟨#[114]⟩, .int .u8 2, .slice (some ⟨w.heap.size, 0, none⟩) 2 2, .slice (some ⟨w4.heap.size, 0, none⟩) 3 3, .slice (some ⟨w8.heap.size, 0, none⟩) 3 3] 43)))
 have FR0_17 : RowKit.Hid (RulesIn (wL.alloc (.cells #[.string ⟨#[114]⟩, .int .u8 2, .slice (some ⟨w.heap.size, 0, none⟩) 2 2, .slice (some ⟨w4.heap.size, 0, none⟩) 3 3, .slice (some ⟨w8.heap.size, 0, none⟩) 3 3] 43)) (.slice (some ⟨wL.heap.size, 0, none⟩) 1 1) [(fyR, .slice (some ⟨w.heap.size, 0, none⟩) 2 2, .slice (some ⟨w4.heap.size, 0, none⟩) 3 3, .slice (some ⟨w8.heap.size, 0, none⟩) 3 3)]) := Lib.hid ⟨(lit_rowG wL #[.string ⟨#[114]⟩, .int .u8 2, .slice (some ⟨w.heap.size, 0, none⟩) 2 2, .slice (some ⟨w4.heap.size, 0, none⟩) 3 3, .slice (some ⟨w8.heap.size, 0, none⟩) 3 3] 43 1 5 rfl), fun x hx => by obtain rfl := List.mem_singleton.1 hx; exact ⟨FH_17.out, FF_17.out, FY_17.out⟩⟩
 clear HB16 FH_16 FF_16 FY_16 HRK_16 FL_16
 have HB18 := Lib.hid (bthen HB17.out ((Below.refl (wL.alloc (.cells #[.string ⟨#[114]⟩, .int .u8 2, .slice (some ⟨w.heap.size, 0, none⟩) 2 2, .slice (some ⟨w4.heap.size, 0, none⟩) 3 3, .slice (some ⟨w8.heap.size, 0, none⟩) 3 3] 43)).heap.size (wL.alloc (.cells #[.string ⟨#[114]⟩, .int .u8 2, .slice (some ⟨w.heap.size, 0, none⟩) 2 2, .slice (some ⟨w4.heap.size, 0, none⟩) 3 3, .slice (some ⟨w8.heap.size, 0, none⟩) 3 3] 43))).alloc (Nat.le_refl _) (.cells #[.string ⟨#[120]⟩, .int .i64 2, .int .i64 3, .string ⟨#[121]⟩, .int .i64 3, .int .i64 4] 53)))
 have FH_18 := Lib.hid (FH_17.out.below ((Below.refl (wL.alloc (.cells #[.string ⟨#[114]⟩, .int .u8 2, .slice (some ⟨w.heap.size, 0, none⟩) 2 2, .slice (some ⟨w4.heap.size, 0, none⟩) 3 3, .slice (some ⟨w8.heap.size, 0, none⟩) 3 3] 43)).heap.size (wL.alloc (.cells #[.string ⟨#[114]⟩, .int .u8 2, .slice (some ⟨w.heap.size, 0, none⟩) 2 2, .slice (some ⟨w4.heap.size, 0, none⟩) 3 3, .slice (some ⟨w8.heap.size, 0, none⟩) 3 3] 43))).alloc (Nat.le_refl _) (.cells #[.string ⟨#[120]⟩, .int .i64 2, .int .i64 3, .string ⟨#[121]⟩, .int .i64 3, .int .i64 4] 53)))
 have FF_18 := Lib.hid (FF_17.out.below ((Below.refl (wL.alloc (.cells #[.string ⟨#[114]⟩, .int .u8 2, .slice (some ⟨w.heap.size, 0, none⟩) 2 2, .slice (some ⟨w4.heap.size, 0, none⟩) 3 3, .slice (some ⟨w8.heap.size, 0, none⟩) 3 3] 43)).heap.size (wL.alloc (.cells #[.string ⟨#[114]⟩, .int .u8 2, .slice (some ⟨w.heap.size, 0, none⟩) 2 2, .slice (some ⟨w4.heap.size, 0, none⟩) 3 3, .slice (some ⟨w8.heap.size, 0, none⟩) 3 3] 43))).alloc (Nat.le_refl _) (.cells #[.string ⟨#[120]⟩, .int .i64 2, .int .i64 3, .string ⟨#[121]⟩, .int .i64 3, .int .i64 4] 53)))
 have FY_18 := Lib.hid (FY_17.out.below ((Below.refl (wL.alloc (.cells #[.string ⟨#[114]⟩, .int .u8 2, .slice (some ⟨w.heap.size, 0, none⟩) 2 2, .slice (some ⟨w4.heap.size, 0, none⟩) 3 3, .slice (some ⟨w8.heap.size, 0, none⟩) 3 3] 43)).heap.size (wL.alloc (.cells #[.string ⟨#[114]⟩, .int .u8 2, .slice (some ⟨w.heap.size, 0, none⟩) 2 2, .slice (some ⟨w4.heap.size, 0, none⟩) 3 3, .slice (some ⟨w8.heap.size, 0, none⟩) 3 3] 43))).alloc (Nat.le_refl _) (.cells #[.string ⟨#[120]⟩, .int .i64 2, .int .i64 3, .string ⟨#[121]⟩, .int .i64 3, .int .i64 4] 53)))
 have HRK_18 := Lib.hid (HRK_17.out.below ((Below.refl (wL.alloc (.cells #[.string ⟨#[114]⟩, .int .u8 2, .slice (some ⟨w.heap.size, 0, none⟩) 2 2, .slice (some ⟨w4.heap.size, 0, none⟩) 3 3, .slice (some ⟨w8.heap.size, 0, none⟩) 3 3] 43)).heap.size (wL.alloc (.cells #[.string ⟨#[114]⟩, .int .u8 2, .slice (some ⟨w.heap.size, 0, none⟩) 2 2, .slice (some ⟨w4.heap.size, 0, none⟩) 3 3, .slice (some ⟨w8.heap.size, 0, none⟩) 3 3] 43))).alloc (Nat.le_refl _) (.cells #[.string ⟨#[120]⟩, .int .i64 2, .int .i64 3, .string ⟨#[121]⟩, .int .i64 3, .int .i64 4] 53)))
 have FL_18 := Lib.hid (FL_17.out.below ((Below.refl (wL.alloc (.cells #[.string ⟨#[114]⟩, .int .u8 2, .slice (some ⟨w.heap.size, 0, none⟩) 2 2, .slice (some ⟨w4.heap.size, 0, none⟩) 3 3, .slice (some ⟨w8.heap.size, 0, none⟩) 3 3] 43)).heap.size (wL.alloc (.cells #[.string ⟨#[114]⟩, .int .u8 2, .slice (some ⟨w.heap.size, 0, none⟩) 2 2, .slice (some ⟨w4.heap.size, 0, none⟩) 3 3, .slice (some ⟨w8.heap.size, 0, none⟩) 3 3] 43))).alloc (Nat.le_refl _) (.cells #[.string ⟨#[120]⟩, .int .i64 2, .int .i64 3, .string ⟨#[121]⟩, .int .i64 3, .int .i64 4] 53)))
 have FR0_18 := Lib.hid (FR0_17.out.below ((Below.refl (wL.alloc (.cells #[.string ⟨#[114]⟩, .int .u8 2, .slice (some ⟨w.heap.size, 0, none⟩) 2 2, .slice (some ⟨w4.heap.size, 0, none⟩) 3 3, .slice (some ⟨w8.heap.size, 0, none⟩) 3 3] 43)).heap.size (wL.alloc (.cells #[.string ⟨#[114]⟩, .int .u8 2, .slice (some ⟨w.heap.size, 0, none⟩) 2 2, .slice (some ⟨w4.heap.size, 0, none⟩) 3 3, .slice (some ⟨w8.heap.size, 0, none⟩) 3 3] 43))).alloc (Nat.le_refl _) (.cells #[.string ⟨#[120]⟩, .int .i64 2, .int .i64 3, .string ⟨#[121]⟩, .int .i64 3, .int .i64 4] 53)))
 have FB_18 : RowKit.Hid (BindRow ((wL.alloc (.cells #[.string ⟨#[114]⟩, .int .u8 2, .slice (some ⟨w.heap.size, 0, none⟩) 2 2, .slice (some ⟨w4.heap.size, 0, none⟩) 3 3, .slice (some ⟨w8.heap.size, 0, none⟩) 3 3] 43)).alloc (.cells #[.string ⟨#[120]⟩, .int .i64 2, .int .i64 3, .string ⟨#[121]⟩, .int .i64 3, .int .i64 4] 53)) (.slice (some ⟨wL.heap.size + 1, 0, none⟩) 2 2) fyB) := Lib.hid (by have h := lit_rowG (wL.alloc (.cells #[.string ⟨#[114]⟩, .int .u8 2, .slice (some ⟨w.heap.size, 0, none⟩) 2 2, .slice (some ⟨w4.heap.size, 0, none⟩) 3 3, .slice (some ⟨w8.heap.size, 0, none⟩) 3 3] 43)) #[.string ⟨#[120]⟩, .int .i64 2, .int .i64 3, .string ⟨#[121]⟩, .int .i64 3, .int .i64 4] 53 2 3 rfl; simp only [World.size_alloc] at h; exact h)
 clear HB17 FH_17 FF_17 FY_17 HRK_17 FL_17 FR0_17
 have HB19 := Lib.hid (bthen HB18.out ((Below.refl ((wL.alloc (.cells #[.string ⟨#[114]⟩, .int .u8 2, .slice (some ⟨w.heap.size, 0, none⟩) 2 2, .slice (some ⟨w4.heap.size, 0, none⟩) 3 3, .slice (some ⟨w8.heap.size, 0, none⟩) 3 3] 43)).alloc (.cells #[.string ⟨#[120]⟩, .int .i64 2, .int .i64 3, .string ⟨#[121]⟩, .int .i64 3, .int .i64 4] 53)).heap.size ((wL.alloc (.cells #[.string ⟨#[114]⟩, .int .u8 2, .slice (some ⟨w.heap.size, 0, none⟩) 2 2, .slice (some ⟨w4.heap.size, 0, none⟩) 3 3, .slice (some ⟨w8.heap.size, 0, none⟩) 3 3] 43)).alloc (.cells #[.string ⟨#[120]⟩, .int .i64 2, .int .i64 3, .string ⟨#[121]⟩, .int .i64 3, .int .i64 4] 53))).alloc (Nat.le_refl _) (.cells #[.int .i64 0, .int .i64 1, .slice (some ⟨wL.heap.size + 1, 0, none⟩) 2 2] 35)))
 have FH_19 := Lib.hid (FH_18.out.below ((Below.refl ((wL.alloc (.cells #[.string ⟨#[114]⟩, .int .u8 2, .slice (some ⟨w.heap.size, 0, none⟩) 2 2, .slice (some ⟨w4.heap.size, 0, none⟩) 3 3, .slice (some ⟨w8.heap.size, 0, none⟩) 3 3] 43)).alloc (.cells #[.string ⟨#[120]⟩, .int .i64 2, .int .i64 3, .string ⟨#[121]⟩, .int .i64 3, .int .i64 4] 53)).heap.size ((wL.alloc (.cells #[.string ⟨#[114]⟩, .int .u8 2, .slice (some ⟨w.heap.size, 0, none⟩) 2 2, .slice (some ⟨w4.heap.size, 0, none⟩) 3 3, .slice (some ⟨w8.heap.size, 0, none⟩) 3 3] 43)).alloc (.cells #[.string ⟨#[120]⟩, .int .i64 2, .int .i64 3, .string ⟨#[121]⟩, .int .i64 3, .int .i64 4] 53))).alloc (Nat.le_refl _) (.cells #[.int .i64 0, .int .i64 1, .slice (some ⟨wL.heap.size + 1, 0, none⟩) 2 2] 35)))
 have FF_19 := Lib.hid (FF_18.out.below ((Below.refl ((wL.alloc (.cells #[.string ⟨#[114]⟩, .int .u8 2, .slice (some ⟨w.heap.size, 0, none⟩) 2 2, .slice (some ⟨w4.heap.size, 0, none⟩) 3 3, .slice (some ⟨w8.heap.size, 0, none⟩) 3 3] 43)).alloc (.cells #[.string ⟨#[120]⟩, .int .i64 2, .int .i64 3, .string ⟨#[121]⟩, .int .i64 3, .int .i64 4] 53)).heap.size ((wL.alloc (.cells #[.string ⟨#[114]⟩, .int .u8 2, .slice (some ⟨w.heap.size, 0, none⟩) 2 2, .slice (some ⟨w4.heap.size, 0, none⟩) 3 3, .slice (some ⟨w8.heap.size, 0, none⟩) 3 3] 43)).alloc (.cells #[.string ⟨#[120]⟩, .int .i64 2, .int .i64 3, .string ⟨#[121]⟩, .int .i64 3, .int .i64 4] 53))).alloc (Nat.le_refl _) (.cells #[.int .i64 0, .int .i64 1, .slice (some ⟨wL.heap.size + 1, 0, none⟩) 2 2] 35)))
 have FY_19 := Lib.hid (FY_18.out.below ((Below.refl ((wL.alloc (.cells #[.string ⟨#[114]⟩, .int .u8 2, .slice (some ⟨w.heap.size, 0, none⟩) 2 2, .slice (some ⟨w4.heap.size, 0, none⟩) 3 3, .slice (some ⟨w8.heap.size, 0, none⟩) 3 3] 43)).alloc (.cells #[.string ⟨#[120]⟩, .int .i64 2, .int .i64 3, .string ⟨#[121]⟩, .int .i64 3, .int .i64 4] 53)).heap.size ((wL.alloc (.cells #[.string ⟨#[114]⟩, .int .u8 2, .slice (some ⟨w.heap.size, 0, none⟩) 2 2, .slice (some ⟨w4.heap.size, 0, none⟩) 3 3, .slice (some ⟨w8.heap.size, 0, none⟩) 3 3] 43)).alloc (.cells #[.string ⟨#[120]⟩, .int .i64 2, .int .i64 3, .string ⟨#[121]⟩, .int .i64 3, .int .i64 4] 53))).alloc (Nat.le_refl _) (.cells #[.int .i64 0, .int .i64 1, .slice (some ⟨wL.heap.size + 1, 0, none⟩) 2 2] 35)))
 have HRK_19 := Lib.hid (HRK_18.out.below ((Below.refl ((wL.alloc (.cells #[.string ⟨#[114]⟩, .int .u8 2, .slice (some ⟨w.heap.size, 0, none⟩) 2 2, .slice (some ⟨w4.heap.size, 0, none⟩) 3 3, .slice (some ⟨w8.heap.size, 0, none⟩) 3 3] 43)).alloc (.cells #[.string ⟨#[120]⟩, .int .i64 2, .int .i64 3, .string ⟨#[121]⟩, .int .i64 3, .int .i64 4] 53)).heap.size ((wL.alloc (.cells #[.string ⟨#[114]⟩, .int .u8 2, .slice (some ⟨w.heap.size, 0, none⟩) 2 2, .slice (some ⟨w4.heap.size, 0, none⟩) 3 3, .slice (some ⟨w8.heap.size, 0, none⟩) 3 3] 43)).alloc (.cells #[.string ⟨#[120]⟩, .int .i64 2, .int .i64 3, .string ⟨#[121]⟩, .int .i64 3, .int .i64 4] 53))).alloc (Nat.le_refl _) (.cells #[.int .i64 0, .int .i64 1, .slice (some ⟨wL.heap.size + 1, 0, none⟩) 2 2] 35)))
 have FL_19 := Lib.hid (FL_18.out.below ((Below.refl ((wL.alloc (.cells #[.string ⟨#[114]⟩, .int .u8 2, .slice (some ⟨w.heap.size, 0, none⟩) 2 2, .slice (some ⟨w4.heap.size, 0, none⟩) 3 3, .slice (some ⟨w8.heap.size, 0, none⟩) 3 3] 43)).alloc (.cells #[.string ⟨#[120]⟩, .int .i64 2, .int .i64 3, .string ⟨#[121]⟩, .int .i64 3, .int .i64 4] 53)).heap.size ((wL.alloc (.cells #[.string ⟨#[114]⟩, .int .u8 2, .slice (some ⟨w.heap.size, 0, none⟩) 2 2, .slice (some ⟨w4.heap.size, 0, none⟩) 3 3, .slice (some ⟨w8.heap.size, 0, none⟩) 3 3] 43)).alloc (.cells #[.string ⟨#[120]⟩, .int .i64 2, .int .i64 3, .string ⟨#[121]⟩, .int .i64 3, .int .i64 4] 53))).alloc (Nat.le_refl _) (.cells #[.int .i64 0, .int .i64 1, .slice (some ⟨wL.heap.size + 1, 0, none⟩) 2 2] 35)))
 have FR0_19 := Lib.hid (FR0_18.out.below ((Below.refl ((wL.alloc (.cells #[.string ⟨#[114]⟩, .int .u8 2, .slice (some ⟨w.heap.size, 0, none⟩) 2 2, .slice (some ⟨w4.heap.size, 0, none⟩) 3 3, .slice (some ⟨w8.heap.size, 0, none⟩) 3 3] 43)).alloc (.cells #[.string ⟨#[120]⟩, .int .i64 2, .int .i64 3, .string ⟨#[121]⟩, .int .i64 3, .int .i64 4] 53)).heap.size ((wL.alloc (.cells #[.string ⟨#[114]⟩, .int .u8 2, .slice (some ⟨w.heap.size, 0, none⟩) 2 2, .slice (some ⟨w4.heap.size, 0, none⟩) 3 3, .slice (some ⟨w8.heap.size, 0, none⟩) 3 3] 43)).alloc (.cells #[.string ⟨#[120]⟩, .int .i64 2, .int .i64 3, .string ⟨#[121]⟩, .int .i64 3, .int .i64 4] 53))).alloc (Nat.le_refl _) (.cells #[.int .i64 0, .int .i64 1, .slice (some ⟨wL.heap.size + 1, 0, none⟩) 2 2] 35)))
 have FB_19 := Lib.hid (FB_18.out.below ((Below.refl ((wL.alloc (.cells #[.string ⟨#[114]⟩, .int .u8 2, .slice (some ⟨w.heap.size, 0, none⟩) 2 2, .slice (some ⟨w4.heap.size, 0, none⟩) 3 3, .slice (some ⟨w8.heap.size, 0, none⟩) 3 3] 43)).alloc (.cells #[.string ⟨#[120]⟩, .int .i64 2, .int .i64 3, .string ⟨#[121]⟩, .int .i64 3, .int .i64 4] 53)).heap.size ((wL.alloc (.cells #[.string ⟨#[114]⟩, .int .u8 2, .slice (some ⟨w.heap.size, 0, none⟩) 2 2, .slice (some ⟨w4.heap.size, 0, none⟩) 3 3, .slice (some ⟨w8.heap.size, 0, none⟩) 3 3] 43)).alloc (.cells #[.string ⟨#[120]⟩, .int .i64 2, .int .i64 3, .string ⟨#[121]⟩, .int .i64 3, .int .i64 4] 53))).alloc (Nat.le_refl _) (.cells #[.int .i64 0, .int .i64 1, .slice (some ⟨wL.heap.size + 1, 0, none⟩) 2 2] 35)))
 have FP_19 : RowKit.Hid (PicksIn (((wL.alloc (.cells #[.string ⟨#[114]⟩, .int .u8 2, .slice (some ⟨w.heap.size, 0, none⟩) 2 2, .slice (some ⟨w4.heap.size, 0, none⟩) 3 3, .slice (some ⟨w8.heap.size, 0, none⟩) 3 3] 43)).alloc (.cells #[.string ⟨#[120]⟩, .int .i64 2, .int .i64 3, .string ⟨#[121]⟩, .int .i64 3, .int .i64 4] 53)).alloc (.cells #[.int .i64 0, .int .i64 1, .slice (some ⟨wL.heap.size + 1, 0, none⟩) 2 2] 35)) (.slice (some ⟨wL.heap.size + 1 + 1, 0, none⟩) 1 1) [((0, 1, fyB), .slice (some ⟨wL.heap.size + 1, 0, none⟩) 2 2)]) := Lib.hid ⟨(by have h := lit_rowG ((wL.alloc (.cells #[.string ⟨#[114]⟩, .int .u8 2, .slice (some ⟨w.heap.size, 0, none⟩) 2 2, .slice (some ⟨w4.heap.size, 0, none⟩) 3 3, .slice (some ⟨w8.heap.size, 0, none⟩) 3 3] 43)).alloc (.cells #[.string ⟨#[120]⟩, .int .i64 2, .int .i64 3, .string ⟨#[121]⟩, .int .i64 3, .int .i64 4] 53)) #[.int .i64 0, .int .i64 1, .slice (some ⟨wL.heap.size + 1, 0, none⟩) 2 2] 35 1 3 rfl; simp only [World.size_alloc] at h; exact h), fun x hx => by obtain rfl := List.mem_singleton.1 hx; exact FB_19.out⟩
 clear HB18 FH_18 FF_18 FY_18 HRK_18 FL_18 FR0_18 FB_18
 have CS := Lib.hid (fill_Step [(fyR, .slice (some ⟨w.heap.size, 0, none⟩) 2 2, .slice (some ⟨w4.heap.size, 0, none⟩) 3 3, .slice (some ⟨w8.heap.size, 0, none⟩) 3 3)] (fun x hx => by obtain rfl := List.mem_singleton.1 hx; exact fyR_small) fyL fyL_small [((0, 1, fyB), .slice (some ⟨wL.heap.size + 1, 0, none⟩) 2 2)] ⟨by show (1 : Nat) ≤ 1048576; decide, fun x hx => by obtain rfl := List.mem_singleton.1 hx; show (2 : Nat) ≤ 1048576; decide⟩ _ _ _ (((wL.alloc (.cells #[.string ⟨#[114]⟩, .int .u8 2, .slice (some ⟨w.heap.size, 0, none⟩) 2 2, .slice (some ⟨w4.heap.size, 0, none⟩) 3 3, .slice (some ⟨w8.heap.size, 0, none⟩) 3 3] 43)).alloc (.cells #[.string ⟨#[120]⟩, .int .i64 2, .int .i64 3, .string ⟨#[121]⟩, .int .i64 3, .int .i64 4] 53)).alloc (.cells #[.int .i64 0, .int .i64 1, .slice (some ⟨wL.heap.size + 1, 0, none⟩) 2 2] 35)) (HT.out.below HB19.out) (HMX.out.below HB19.out) FR0_19.out FL_19.out FP_19.out)
 have CS : RowKit.Hid (Calls Tryd.prog 8 #[.slice (some ⟨wL.heap.size, 0, none⟩) 1 1, .slice (some ⟨w15.heap.size, 0, none⟩) 5 5, .slice (some ⟨wL.heap.size + 1 + 1, 0, none⟩) 1 1] (((wL.alloc (.cells #[.string ⟨#[114]⟩, .int .u8 2, .slice (some ⟨w.heap.size, 0, none⟩) 2 2, .slice (some ⟨w4.heap.size, 0, none⟩) 3 3, .slice (some ⟨w8.heap.size, 0, none⟩) 3 3] 43)).alloc (.cells #[.string ⟨#[120]⟩, .int .i64 2, .int .i64 3, .string ⟨#[121]⟩, .int .i64 3, .int .i64 4] 53)).alloc (.cells #[.int .i64 0, .int .i64 1, .slice (some ⟨wL.heap.size + 1, 0, none⟩) 2 2] 35)) (stepPost [fyR] fyL [(0, 1, fyB)] (((wL.alloc (.cells #[.string ⟨#[114]⟩, .int .u8 2, .slice (some ⟨w.heap.size, 0, none⟩) 2 2, .slice (some ⟨w4.heap.size, 0, none⟩) 3 3, .slice (some ⟨w8.heap.size, 0, none⟩) 3 3] 43)).alloc (.cells #[.string ⟨#[120]⟩, .int .i64 2, .int .i64 3, .string ⟨#[121]⟩, .int .i64 3, .int .i64 4] 53)).alloc (.cells #[.int .i64 0, .int .i64 1, .slice (some ⟨wL.heap.size + 1, 0, none⟩) 2 2] 35)))) := CS
 go_wp2_with fail
 refine CS.out.mono ?_
 intro e w5 hp
 unfold stepPost at hp
 rw [fy_step] at hp
 obtain ⟨hb5, ov, nv, rfl, ho5, hn5⟩ := hp
 obtain ⟨oa, oc, rfl, _⟩ : ∃ a c, ov = .slice a 6 c ∧ 6 ≤ c := Row.shape (Row.of_owns ho5)
 obtain ⟨na, nc, rfl, _⟩ : ∃ a c, nv = .slice a 6 c ∧ 6 ≤ c := Row.shape (Row.of_owns hn5)
 have FO : RowKit.Hid (PartRow w5 (.slice oa 6 oc) fyO) := Lib.hid (Row.of_owns ho5)
 have FN : RowKit.Hid (RowInts w5 (.slice na 6 nc) .i64 fyN) := Lib.hid (Row.of_owns hn5)
 have HBz := Lib.hid (bthen HB19.out hb5)
 clear hb5 ho5 hn5 CS e0 e1 e2 e3 e4 HB19 FH_19 FF_19 FY_19 HRK_19 FL_19 FR0_19 FB_19 FP_19
 go_wp2_with fail
 refine (law20_pair _ _).mono ?_
 rintro e w20 ⟨rfl, hb⟩
 have HB20 := Lib.hid (bthen HBz.out hb)
 have FO_20 := Lib.hid (FO.out.below hb)
 have FN_20 := Lib.hid (FN.out.below hb)
 clear hb HBz FO FN
 go_wp2_with fail
 refine (law20_pair _ _).mono ?_
 rintro e w21 ⟨rfl, hb⟩
 have HB21 := Lib.hid (bthen HB20.out hb)
 have FO_21 := Lib.hid (FO_20.out.below hb)
 have FN_21 := Lib.hid (FN_20.out.below hb)
 clear hb HB20 FO_20 FN_20
 go_wp2_with fail
 refine (law20_name _ _).mono ?_
 rintro e w22 ⟨rfl, hb⟩
 have HB22 := Lib.hid (bthen HB21.out hb)
 have FO_22 := Lib.hid (FO_21.out.below hb)
 have FN_22 := Lib.hid (FN_21.out.below hb)
 clear hb HB21 FO_21 FN_21
 go_wp2_with fail
 refine (law20_name _ _).mono ?_
 rintro e w23 ⟨rfl, hb⟩
 have HB23 := Lib.hid (bthen HB22.out hb)
 have FO_23 := Lib.hid (FO_22.out.below hb)
 have FN_23 := Lib.hid (FN_22.out.below hb)
 clear hb HB22 FO_22 FN_22
 go_wp2_with fail
 refine (law20_name _ _).mono ?_
 rintro e w24 ⟨rfl, hb⟩
 have HB24 := Lib.hid (bthen HB23.out hb)
 have FO_24 := Lib.hid (FO_23.out.below hb)
 have FN_24 := Lib.hid (FN_23.out.below hb)
 clear hb HB23 FO_23 FN_23
 have HB25 := Lib.hid (bthen HB24.out ((Below.refl w24.heap.size w24).alloc (Nat.le_refl _) (.cells #[.int .u8 37, .int .i64 2, .string ⟨#[42]⟩, .int .u8 28, .int .i64 1, .string ⟨#[]⟩, .int .u8 37, .int .i64 2, .string ⟨#[43]⟩, .int .u8 26, .int .i64 0, .string ⟨#[97]⟩, .int .u8 26, .int .i64 0, .string ⟨#[98]⟩, .int .u8 26, .int .i64 0, .string ⟨#[99]⟩] 38)))
 have FO_25 := Lib.hid (FO_24.out.below ((Below.refl w24.heap.size w24).alloc (Nat.le_refl _) (.cells #[.int .u8 37, .int .i64 2, .string ⟨#[42]⟩, .int .u8 28, .int .i64 1, .string ⟨#[]⟩, .int .u8 37, .int .i64 2, .string ⟨#[43]⟩, .int .u8 26, .int .i64 0, .string ⟨#[97]⟩, .int .u8 26, .int .i64 0, .string ⟨#[98]⟩, .int .u8 26, .int .i64 0, .string ⟨#[99]⟩] 38)))
 have FN_25 := Lib.hid (FN_24.out.below ((Below.refl w24.heap.size w24).alloc (Nat.le_refl _) (.cells #[.int .u8 37, .int .i64 2, .string ⟨#[42]⟩, .int .u8 28, .int .i64 1, .string ⟨#[]⟩, .int .u8 37, .int .i64 2, .string ⟨#[43]⟩, .int .u8 26, .int .i64 0, .string ⟨#[97]⟩, .int .u8 26, .int .i64 0, .string ⟨#[98]⟩, .int .u8 26, .int .i64 0, .string ⟨#[99]⟩] 38)))
 have FS_25 : RowKit.Hid (PartRow (w24.alloc (.cells #[.int .u8 37, .int .i64 2, .string ⟨#[42]⟩, .int .u8 28, .int .i64 1, .string ⟨#[]⟩, .int .u8 37, .int .i64 2, .string ⟨#[43]⟩, .int .u8 26, .int .i64 0, .string ⟨#[97]⟩, .int .u8 26, .int .i64 0, .string ⟨#[98]⟩, .int .u8 26, .int .i64 0, .string ⟨#[99]⟩] 38)) (.slice (some ⟨w24.heap.size, 0, none⟩) 6 6) fyO) := Lib.hid (lit_rowG w24 #[.int .u8 37, .int .i64 2, .string ⟨#[42]⟩, .int .u8 28, .int .i64 1, .string ⟨#[]⟩, .int .u8 37, .int .i64 2, .string ⟨#[43]⟩, .int .u8 26, .int .i64 0, .string ⟨#[97]⟩, .int .u8 26, .int .i64 0, .string ⟨#[98]⟩, .int .u8 26, .int .i64 0, .string ⟨#[99]⟩] 38 6 3 rfl)
 clear HB24 FO_24 FN_24
 have CC := Lib.hid (ref_Same11 (.slice oa 6 oc) (.slice (some ⟨w24.heap.size, 0, none⟩) 6 6) fyO fyO (by decide) (by decide) (w24.alloc (.cells #[.int .u8 37, .int .i64 2, .string ⟨#[42]⟩, .int .u8 28, .int .i64 1, .string ⟨#[]⟩, .int .u8 37, .int .i64 2, .string ⟨#[43]⟩, .int .u8 26, .int .i64 0, .string ⟨#[97]⟩, .int .u8 26, .int .i64 0, .string ⟨#[98]⟩, .int .u8 26, .int .i64 0, .string ⟨#[99]⟩] 38)) FO_25.out FS_25.out)
 go_wp2_with fail
 refine CC.out.mono ?_
 rintro e w26 ⟨x, rfl, hx, hb⟩
 have HB26 := Lib.hid (bthen HB25.out hb)
 have FO_26 := Lib.hid (FO_25.out.below hb)
 have FN_26 := Lib.hid (FN_25.out.below hb)
 have FS_26 := Lib.hid (FS_25.out.below hb)
 obtain rfl : x = true := hx.2 rfl
 clear hb hx CC HB25 FO_25 FN_25 FS_25
 have HB27 := Lib.hid (bthen HB26.out ((Below.refl w26.heap.size w26).alloc (Nat.le_refl _) (.cells #[.int .i64 0, .int .i64 (-1), .int .i64 (-1), .int .i64 2, .int .i64 3, .int .i64 4] 3)))
 have FO_27 := Lib.hid (FO_26.out.below ((Below.refl w26.heap.size w26).alloc (Nat.le_refl _) (.cells #[.int .i64 0, .int .i64 (-1), .int .i64 (-1), .int .i64 2, .int .i64 3, .int .i64 4] 3)))
 have FN_27 := Lib.hid (FN_26.out.below ((Below.refl w26.heap.size w26).alloc (Nat.le_refl _) (.cells #[.int .i64 0, .int .i64 (-1), .int .i64 (-1), .int .i64 2, .int .i64 3, .int .i64 4] 3)))
 have FS_27 := Lib.hid (FS_26.out.below ((Below.refl w26.heap.size w26).alloc (Nat.le_refl _) (.cells #[.int .i64 0, .int .i64 (-1), .int .i64 (-1), .int .i64 2, .int .i64 3, .int .i64 4] 3)))
 have FI_27 : RowKit.Hid (RowInts (w26.alloc (.cells #[.int .i64 0, .int .i64 (-1), .int .i64 (-1), .int .i64 2, .int .i64 3, .int .i64 4] 3)) (.slice (some ⟨w26.heap.size, 0, none⟩) 6 6) .i64 fyN) := Lib.hid (lit_rowG w26 #[.int .i64 0, .int .i64 (-1), .int .i64 (-1), .int .i64 2, .int .i64 3, .int .i64 4] 3 6 1 rfl)
 clear HB26 FO_26 FN_26 FS_26
 have CI := Lib.hid (ref_Ints (.slice na 6 nc) (.slice (some ⟨w26.heap.size, 0, none⟩) 6 6) fyN fyN (by decide) (by decide) (w26.alloc (.cells #[.int .i64 0, .int .i64 (-1), .int .i64 (-1), .int .i64 2, .int .i64 3, .int .i64 4] 3)) FN_27.out FI_27.out)
 rw [decide_eq_true rfl] at CI
 go_wp2_with fail
 refine CI.out.mono ?_
 rintro e wZ ⟨rfl, hbZ⟩
 have HX := Lib.hid (HQ.out wZ (bthen HB27.out hbZ))
 clear hbZ CI
 go_wp2_with fail
 exact HX.out

set_option maxRecDepth 100000 in
set_option maxHeartbeats 4000000 in
theorem law20_one (s : ByteArray) (w : World) : Calls Tryd.prog 12 #[.string s] w fun e w' => ∃ g, e = .returned (.slice (some ⟨g, 0, none⟩) 2 2) ∧ PartRow w' (.slice (some ⟨g, 0, none⟩) 2 2) [(50, 1, ⟨#[]⟩), (26, 0, s)] ∧ Below w.heap.size w w' := by
 have HX : RowKit.Hid (∀ w' g, PartRow w' (.slice (some ⟨g, 0, none⟩) 2 2) [(50, 1, ⟨#[]⟩), (26, 0, s)] → Below w.heap.size w w' → (fun (e : Ending) w' => ∃ g, e = .returned (.slice (some ⟨g, 0, none⟩) 2 2) ∧ PartRow w' (.slice (some ⟨g, 0, none⟩) 2 2) [(50, 1, ⟨#[]⟩), (26, 0, s)] ∧ Below w.heap.size w w') (.returned (.slice (some ⟨g, 0, none⟩) 2 2)) w') := Lib.hid fun w' g h1 h2 => ⟨g, rfl, h1, h2⟩
 generalize (fun (e : Ending) w' => ∃ g, e = .returned (.slice (some ⟨g, 0, none⟩) 2 2) ∧ PartRow w' (.slice (some ⟨g, 0, none⟩) 2 2) [(50, 1, ⟨#[]⟩), (26, 0, s)] ∧ Below w.heap.size w w') = Q at *
 go_enter Tryd.func12, Tryd.ntmps12
 go_wp2_with fail
 refine (law20_name _ _).mono ?_
 rintro e w1 ⟨rfl, hb⟩
 have HZ := Lib.hid (HX.out _ w1.heap.size (lit_rowG w1 #[.int .u8 50, .int .i64 1, .string ⟨#[]⟩, .int .u8 26, .int .i64 0, .string s] 38 2 3 rfl) (hb.alloc hb.size _))
 clear hb
 go_wp2_with fail
 exact HZ.out
end Go.Proofs.YtmklemelgdilkaaDoor
