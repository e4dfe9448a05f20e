/- Layer 20: the statements' name, pair, one, great and example, walked (printed by tools/genfix20.py). -/
import Derived.Test.YtfalelkfhandfaaGreatDoorPackMs
import Derived.Test.YtfalelkfhandfaaGreatDoorTwoQMs
import Derived.Test.YtfalelkfhandfaaGreatDoorRightWMs
import Derived.Test.YtfalelkfhandfaaGreatDoorTermMs
import Derived.Test.YtfalelkfhandfaaGreatDoorIntsMs
namespace Go.Proofs.YtfalelkfhandfaaGreatDoor
set_option maxRecDepth 100000
set_option maxHeartbeats 32000000
set_option linter.all false
attribute [local irreducible] Calls
attribute [local irreducible] wpStill
open Go.RowKit

theorem vS (s:ByteArray) (w:World):Calls Tryz.prog 16 #[.string s] w fun e w'=>e=.returned (.agg #[.int .u8 26,.int .i64 0,.string s])∧Below w.heap.size w w':=by
 have HX:Hid (∀ w',Below w.heap.size w w'→(fun (e:Ending) w'=>e=.returned (.agg #[.int .u8 26,.int .i64 0,.string s])∧Below w.heap.size w w') (.returned (.agg #[.int .u8 26,.int .i64 0,.string s])) w'):=Hd fun w' h=>⟨rfl,h⟩
 generalize (fun (e:Ending) w'=>e=.returned (.agg #[.int .u8 26,.int .i64 0,.string s])∧Below w.heap.size w w')=Q at *
 go_enter Tryz.func16,Tryz.ntmps16
 go_wp2_with fail
 refine bodyPost_ret (v:=.agg #[.int .u8 26,.int .i64 0,.string s]) ?_ rfl (HX.out _ ((Below.refl _ _).alloc (Nat.le_refl _) _))
 simp [results,Tryz.f16,go_sem]
theorem jO (s:ByteArray) (w:World):Calls Tryz.prog 15 #[.string s] w fun e w'=>e=.returned (.agg #[.int .u8 37,.int .i64 2,.string s])∧Below w.heap.size w w':=by
 have HX:Hid (∀ w',Below w.heap.size w w'→(fun (e:Ending) w'=>e=.returned (.agg #[.int .u8 37,.int .i64 2,.string s])∧Below w.heap.size w w') (.returned (.agg #[.int .u8 37,.int .i64 2,.string s])) w'):=Hd fun w' h=>⟨rfl,h⟩
 generalize (fun (e:Ending) w'=>e=.returned (.agg #[.int .u8 37,.int .i64 2,.string s])∧Below w.heap.size w w')=Q at *
 go_enter Tryz.func15,Tryz.ntmps15
 go_wp2_with fail
 refine bodyPost_ret (v:=.agg #[.int .u8 37,.int .i64 2,.string s]) ?_ rfl (HX.out _ ((Below.refl _ _).alloc (Nat.le_refl _) _))
 simp [results,Tryz.f15,go_sem]
theorem jE (w:World) (C:Array Value) (T:TypeId) (n sz:Nat) (h:C.size=n*sz):Row (w.alloc (.cells C T)) (.slice (some ⟨w.heap.size,0,none⟩) n n) n sz C.toList :=
 ⟨by simpa using h,some ⟨w.heap.size,0,none⟩,n,rfl,Nat.le_refl _,by simp,fun _=>⟨w.heap.size,0,rfl,by simp,fun i _=>by rw [Nat.zero_add,World.cell?_alloc_at _ _ _ _ rfl];simp⟩⟩
def fyH:List Hl:=[(⟨#[120]⟩,1),(⟨#[121]⟩,1)]
def fyF:List Prt:=[(37,2,⟨#[42]⟩),(26,0,⟨#[120]⟩),(26,0,⟨#[121]⟩)]
def fyY:List Prt:=[(37,2,⟨#[43]⟩),(26,0,⟨#[120]⟩),(26,0,⟨#[121]⟩)]
def fyR:RuleM:=⟨⟨#[114]⟩,2,fyH,fyF,fyY⟩
def fyL:List Prt:=[(37,2,⟨#[42]⟩),(37,2,⟨#[42]⟩),(26,0,⟨#[97]⟩),(26,0,⟨#[98]⟩),(26,0,⟨#[99]⟩)]
def fyB:List Bnd:=[(⟨#[120]⟩,2,3),(⟨#[121]⟩,3,4)]
def fyO:List Prt:=[(37,2,⟨#[42]⟩),(28,1,⟨#[]⟩),(37,2,⟨#[43]⟩),(26,0,⟨#[97]⟩),(26,0,⟨#[98]⟩),(26,0,⟨#[99]⟩)]
def fyN:List Int:=[0,-1,-1,2,3,4]
theorem zZk:stepZ [fyR] fyL [(0,1,fyB)]=(fyO.zip fyN,0):=by decide +kernel
theorem zSq:SmallR fyR:=⟨by decide,by decide,⟨by decide,by decide⟩,⟨by decide,by decide⟩,⟨by decide,by decide⟩⟩
theorem zSr:SmallL fyL:=⟨by decide,by decide⟩
theorem zNc (w:World) (hT:Tabs w) (hM:MaxC w):Calls Tryz.prog 6 #[] w fun e w'=>e=.returned (.bool true)∧Below w.heap.size w w':=by
 have HQ:Hid (∀ w',Below w.heap.size w w'→(fun (e:Ending) w'=>e=.returned (.bool true)∧Below w.heap.size w w') (.returned (.bool true)) w'):=Hd fun w' h=>⟨rfl,h⟩
 generalize (fun (e:Ending) w'=>e=.returned (.bool true)∧Below w.heap.size w w')=Q at *
 have HT:=Hd hT
 have HMX:=Hd hM
 clear hT hM
 have HB0:Hid (Below w.heap.size w w):=Hd (Below.refl _ _)
 go_enter Tryz.func6,Tryz.ntmps6
 have hbx:=((Below.refl w.heap.size w).alloc (Nat.le_refl _) (.cells #[.string ⟨#[120]⟩,.int .u8 1,.string ⟨#[121]⟩,.int .u8 1] 49))
 have HB1:=Hd (zB HB0.out hbx)
 have FH_1:Hid (HoleRow (w.alloc (.cells #[.string ⟨#[120]⟩,.int .u8 1,.string ⟨#[121]⟩,.int .u8 1] 49)) (.slice (some ⟨w.heap.size,0,none⟩) 2 2) fyH):=Hd (jE w #[.string ⟨#[120]⟩,.int .u8 1,.string ⟨#[121]⟩,.int .u8 1] 49 2 2 rfl)
 clear hbx
 go_wp2_with fail
 refine (jO _ _).mono ?_
 rintro e w2 ⟨rfl,hb⟩
 have HB2:=Hd (zB HB1.out hb)
 have FH_2:=Hd (FH_1.out.below hb)
 clear hb HB1 FH_1
 go_wp2_with fail
 refine (vS _ _).mono ?_
 rintro e w3 ⟨rfl,hb⟩
 have HB3:=Hd (zB HB2.out hb)
 have FH_3:=Hd (FH_2.out.below hb)
 clear hb HB2 FH_2
 go_wp2_with fail
 refine (vS _ _).mono ?_
 rintro e w4 ⟨rfl,hb⟩
 have HB4:=Hd (zB HB3.out hb)
 have FH_4:=Hd (FH_3.out.below hb)
 clear hb HB3 FH_3
 have hbx:=((Below.refl w4.heap.size w4).alloc (Nat.le_refl _) (.cells #[.int .u8 37,.int .i64 2,.string ⟨#[42]⟩,.int .u8 26,.int .i64 0,.string ⟨#[120]⟩,.int .u8 26,.int .i64 0,.string ⟨#[121]⟩] 38))
 have HB5:=Hd (zB HB4.out hbx)
 have FH_5:=Hd (FH_4.out.below hbx)
 have FF_5:Hid (zD (w4.alloc (.cells #[.int .u8 37,.int .i64 2,.string ⟨#[42]⟩,.int .u8 26,.int .i64 0,.string ⟨#[120]⟩,.int .u8 26,.int .i64 0,.string ⟨#[121]⟩] 38)) (.slice (some ⟨w4.heap.size,0,none⟩) 3 3) fyF):=Hd (jE w4 #[.int .u8 37,.int .i64 2,.string ⟨#[42]⟩,.int .u8 26,.int .i64 0,.string ⟨#[120]⟩,.int .u8 26,.int .i64 0,.string ⟨#[121]⟩] 38 3 3 rfl)
 clear HB4 FH_4 hbx
 go_wp2_with fail
 refine (jO _ _).mono ?_
 rintro e w6 ⟨rfl,hb⟩
 have HB6:=Hd (zB HB5.out hb)
 have FH_6:=Hd (FH_5.out.below hb)
 have FF_6:=Hd (FF_5.out.below hb)
 clear hb HB5 FH_5 FF_5
 go_wp2_with fail
 refine (vS _ _).mono ?_
 rintro e w7 ⟨rfl,hb⟩
 have HB7:=Hd (zB HB6.out hb)
 have FH_7:=Hd (FH_6.out.below hb)
 have FF_7:=Hd (FF_6.out.below hb)
 clear hb HB6 FH_6 FF_6
 go_wp2_with fail
 refine (vS _ _).mono ?_
 rintro e w8 ⟨rfl,hb⟩
 have HB8:=Hd (zB HB7.out hb)
 have FH_8:=Hd (FH_7.out.below hb)
 have FF_8:=Hd (FF_7.out.below hb)
 clear hb HB7 FH_7 FF_7
 have hbx:=((Below.refl w8.heap.size w8).alloc (Nat.le_refl _) (.cells #[.int .u8 37,.int .i64 2,.string ⟨#[43]⟩,.int .u8 26,.int .i64 0,.string ⟨#[120]⟩,.int .u8 26,.int .i64 0,.string ⟨#[121]⟩] 38))
 have HB9:=Hd (zB HB8.out hbx)
 have FH_9:=Hd (FH_8.out.below hbx)
 have FF_9:=Hd (FF_8.out.below hbx)
 have FY_9:Hid (zD (w8.alloc (.cells #[.int .u8 37,.int .i64 2,.string ⟨#[43]⟩,.int .u8 26,.int .i64 0,.string ⟨#[120]⟩,.int .u8 26,.int .i64 0,.string ⟨#[121]⟩] 38)) (.slice (some ⟨w8.heap.size,0,none⟩) 3 3) fyY):=Hd (jE w8 #[.int .u8 37,.int .i64 2,.string ⟨#[43]⟩,.int .u8 26,.int .i64 0,.string ⟨#[120]⟩,.int .u8 26,.int .i64 0,.string ⟨#[121]⟩] 38 3 3 rfl)
 clear HB8 FH_8 FF_8 hbx
 have HRK:Hid (RK ((w8.alloc (.cells #[.int .u8 37,.int .i64 2,.string ⟨#[43]⟩,.int .u8 26,.int .i64 0,.string ⟨#[120]⟩,.int .u8 26,.int .i64 0,.string ⟨#[121]⟩] 38)).alloc (.cells #[.string ⟨#[114]⟩,.int .u8 2,.slice (some ⟨w.heap.size,0,none⟩) 2 2,.slice (some ⟨w4.heap.size,0,none⟩) 3 3,.slice (some ⟨w8.heap.size,0,none⟩) 3 3] 36)) (w8.alloc (.cells #[.int .u8 37,.int .i64 2,.string ⟨#[43]⟩,.int .u8 26,.int .i64 0,.string ⟨#[120]⟩,.int .u8 26,.int .i64 0,.string ⟨#[121]⟩] 38)).heap.size ⟨#[114]⟩ 2 (.slice (some ⟨w.heap.size,0,none⟩) 2 2) (.slice (some ⟨w4.heap.size,0,none⟩) 3 3) (.slice (some ⟨w8.heap.size,0,none⟩) 3 3)):=Hd (heap_alloc_new _ _)
 rw [World.size_alloc] at HRK
 have hbx:=((Below.refl (w8.alloc (.cells #[.int .u8 37,.int .i64 2,.string ⟨#[43]⟩,.int .u8 26,.int .i64 0,.string ⟨#[120]⟩,.int .u8 26,.int .i64 0,.string ⟨#[121]⟩] 38)).heap.size (w8.alloc (.cells #[.int .u8 37,.int .i64 2,.string ⟨#[43]⟩,.int .u8 26,.int .i64 0,.string ⟨#[120]⟩,.int .u8 26,.int .i64 0,.string ⟨#[121]⟩] 38))).alloc (Nat.le_refl _) (.cells #[.string ⟨#[114]⟩,.int .u8 2,.slice (some ⟨w.heap.size,0,none⟩) 2 2,.slice (some ⟨w4.heap.size,0,none⟩) 3 3,.slice (some ⟨w8.heap.size,0,none⟩) 3 3] 36))
 have HB10:=Hd (zB HB9.out hbx)
 have FH_10:=Hd (FH_9.out.below hbx)
 have FF_10:=Hd (FF_9.out.below hbx)
 have FY_10:=Hd (FY_9.out.below hbx)
 clear HB9 FH_9 FF_9 FY_9 hbx
 go_upto_region 2 with (fail)
 generalize ((w8.alloc (.cells #[.int .u8 37,.int .i64 2,.string ⟨#[43]⟩,.int .u8 26,.int .i64 0,.string ⟨#[120]⟩,.int .u8 26,.int .i64 0,.string ⟨#[121]⟩] 38)).alloc (.cells #[.string ⟨#[114]⟩,.int .u8 2,.slice (some ⟨w.heap.size,0,none⟩) 2 2,.slice (some ⟨w4.heap.size,0,none⟩) 3 3,.slice (some ⟨w8.heap.size,0,none⟩) 3 3] 36))=wR at *
 have HRS:Hid True:=Hd trivial
 go_wp2_with fail
 refine (jO _ _).mono ?_
 rintro e w11 ⟨rfl,hb⟩
 have HB11:=Hd (zB HB10.out hb)
 have FH_11:=Hd (FH_10.out.below hb)
 have FF_11:=Hd (FF_10.out.below hb)
 have FY_11:=Hd (FY_10.out.below hb)
 have HRK_11:=Hd (HRK.out.below hb)
 clear hb HB10 FH_10 FF_10 FY_10 HRK
 go_wp2_with fail
 refine (jO _ _).mono ?_
 rintro e w12 ⟨rfl,hb⟩
 have HB12:=Hd (zB HB11.out hb)
 have FH_12:=Hd (FH_11.out.below hb)
 have FF_12:=Hd (FF_11.out.below hb)
 have FY_12:=Hd (FY_11.out.below hb)
 have HRK_12:=Hd (HRK_11.out.below hb)
 clear hb HB11 FH_11 FF_11 FY_11 HRK_11
 go_wp2_with fail
 refine (vS _ _).mono ?_
 rintro e w13 ⟨rfl,hb⟩
 have HB13:=Hd (zB HB12.out hb)
 have FH_13:=Hd (FH_12.out.below hb)
 have FF_13:=Hd (FF_12.out.below hb)
 have FY_13:=Hd (FY_12.out.below hb)
 have HRK_13:=Hd (HRK_12.out.below hb)
 clear hb HB12 FH_12 FF_12 FY_12 HRK_12
 go_wp2_with fail
 refine (vS _ _).mono ?_
 rintro e w14 ⟨rfl,hb⟩
 have HB14:=Hd (zB HB13.out hb)
 have FH_14:=Hd (FH_13.out.below hb)
 have FF_14:=Hd (FF_13.out.below hb)
 have FY_14:=Hd (FY_13.out.below hb)
 have HRK_14:=Hd (HRK_13.out.below hb)
 clear hb HB13 FH_13 FF_13 FY_13 HRK_13
 go_wp2_with fail
 refine (vS _ _).mono ?_
 rintro e w15 ⟨rfl,hb⟩
 have HB15:=Hd (zB HB14.out hb)
 have FH_15:=Hd (FH_14.out.below hb)
 have FF_15:=Hd (FF_14.out.below hb)
 have FY_15:=Hd (FY_14.out.below hb)
 have HRK_15:=Hd (HRK_14.out.below hb)
 clear hb HB14 FH_14 FF_14 FY_14 HRK_14
 have hbx:=((Below.refl w15.heap.size w15).alloc (Nat.le_refl _) (.cells #[.int .u8 37,.int .i64 2,.string ⟨#[42]⟩,.int .u8 37,.int .i64 2,.string ⟨#[42]⟩,.int .u8 26,.int .i64 0,.string ⟨#[97]⟩,.int .u8 26,.int .i64 0,.string ⟨#[98]⟩,.int .u8 26,.int .i64 0,.string ⟨#[99]⟩] 38))
 have HB16:=Hd (zB HB15.out hbx)
 have FH_16:=Hd (FH_15.out.below hbx)
 have FF_16:=Hd (FF_15.out.below hbx)
 have FY_16:=Hd (FY_15.out.below hbx)
 have HRK_16:=Hd (HRK_15.out.below hbx)
 have FL_16:Hid (zD (w15.alloc (.cells #[.int .u8 37,.int .i64 2,.string ⟨#[42]⟩,.int .u8 37,.int .i64 2,.string ⟨#[42]⟩,.int .u8 26,.int .i64 0,.string ⟨#[97]⟩,.int .u8 26,.int .i64 0,.string ⟨#[98]⟩,.int .u8 26,.int .i64 0,.string ⟨#[99]⟩] 38)) (.slice (some ⟨w15.heap.size,0,none⟩) 5 5) fyL):=Hd (jE w15 #[.int .u8 37,.int .i64 2,.string ⟨#[42]⟩,.int .u8 37,.int .i64 2,.string ⟨#[42]⟩,.int .u8 26,.int .i64 0,.string ⟨#[97]⟩,.int .u8 26,.int .i64 0,.string ⟨#[98]⟩,.int .u8 26,.int .i64 0,.string ⟨#[99]⟩] 38 5 3 rfl)
 clear HB15 FH_15 FF_15 FY_15 HRK_15 hbx
 go_upto_region 3 with (fail)
 generalize hg3:w15.alloc (.cells #[.int .u8 37,.int .i64 2,.string ⟨#[42]⟩,.int .u8 37,.int .i64 2,.string ⟨#[42]⟩,.int .u8 26,.int .i64 0,.string ⟨#[97]⟩,.int .u8 26,.int .i64 0,.string ⟨#[98]⟩,.int .u8 26,.int .i64 0,.string ⟨#[99]⟩] 38)=wL at *
 clear hg3
 obtain ⟨e0,e1,e2,e3,e4⟩:=HRK_16.out.cells
 have hbx:=((Below.refl wL.heap.size wL).alloc (Nat.le_refl _) (.cells #[.string ⟨#[114]⟩,.int .u8 2,.slice (some ⟨w.heap.size,0,none⟩) 2 2,.slice (some ⟨w4.heap.size,0,none⟩) 3 3,.slice (some ⟨w8.heap.size,0,none⟩) 3 3] 36))
 have HB17:=Hd (zB HB16.out hbx)
 have FH_17:=Hd (FH_16.out.below hbx)
 have FF_17:=Hd (FF_16.out.below hbx)
 have FY_17:=Hd (FY_16.out.below hbx)
 have HRK_17:=Hd (HRK_16.out.below hbx)
 have FL_17:=Hd (FL_16.out.below hbx)
 have FR0_17:Hid (xZ (wL.alloc (.cells #[.string ⟨#[114]⟩,.int .u8 2,.slice (some ⟨w.heap.size,0,none⟩) 2 2,.slice (some ⟨w4.heap.size,0,none⟩) 3 3,.slice (some ⟨w8.heap.size,0,none⟩) 3 3] 36)) (.slice (some ⟨wL.heap.size,0,none⟩) 1 1) [(fyR,.slice (some ⟨w.heap.size,0,none⟩) 2 2,.slice (some ⟨w4.heap.size,0,none⟩) 3 3,.slice (some ⟨w8.heap.size,0,none⟩) 3 3)]):=Hd ⟨(jE wL #[.string ⟨#[114]⟩,.int .u8 2,.slice (some ⟨w.heap.size,0,none⟩) 2 2,.slice (some ⟨w4.heap.size,0,none⟩) 3 3,.slice (some ⟨w8.heap.size,0,none⟩) 3 3] 36 1 5 rfl),fun x hx=>by obtain rfl:=List.mem_singleton.1 hx;exact ⟨FH_17.out,FF_17.out,FY_17.out⟩⟩
 clear HB16 FH_16 FF_16 FY_16 HRK_16 FL_16 hbx
 have hbx:=((Below.refl (wL.alloc (.cells #[.string ⟨#[114]⟩,.int .u8 2,.slice (some ⟨w.heap.size,0,none⟩) 2 2,.slice (some ⟨w4.heap.size,0,none⟩) 3 3,.slice (some ⟨w8.heap.size,0,none⟩) 3 3] 36)).heap.size (wL.alloc (.cells #[.string ⟨#[114]⟩,.int .u8 2,.slice (some ⟨w.heap.size,0,none⟩) 2 2,.slice (some ⟨w4.heap.size,0,none⟩) 3 3,.slice (some ⟨w8.heap.size,0,none⟩) 3 3] 36))).alloc (Nat.le_refl _) (.cells #[.string ⟨#[120]⟩,.int .i64 2,.int .i64 3,.string ⟨#[121]⟩,.int .i64 3,.int .i64 4] 52))
 have HB18:=Hd (zB HB17.out hbx)
 have FH_18:=Hd (FH_17.out.below hbx)
 have FF_18:=Hd (FF_17.out.below hbx)
 have FY_18:=Hd (FY_17.out.below hbx)
 have HRK_18:=Hd (HRK_17.out.below hbx)
 have FL_18:=Hd (FL_17.out.below hbx)
 have FR0_18:=Hd (FR0_17.out.below hbx)
 have FB_18:Hid (BindRow ((wL.alloc (.cells #[.string ⟨#[114]⟩,.int .u8 2,.slice (some ⟨w.heap.size,0,none⟩) 2 2,.slice (some ⟨w4.heap.size,0,none⟩) 3 3,.slice (some ⟨w8.heap.size,0,none⟩) 3 3] 36)).alloc (.cells #[.string ⟨#[120]⟩,.int .i64 2,.int .i64 3,.string ⟨#[121]⟩,.int .i64 3,.int .i64 4] 52)) (.slice (some ⟨wL.heap.size+1,0,none⟩) 2 2) fyB):=Hd (by have h:=jE (wL.alloc (.cells #[.string ⟨#[114]⟩,.int .u8 2,.slice (some ⟨w.heap.size,0,none⟩) 2 2,.slice (some ⟨w4.heap.size,0,none⟩) 3 3,.slice (some ⟨w8.heap.size,0,none⟩) 3 3] 36)) #[.string ⟨#[120]⟩,.int .i64 2,.int .i64 3,.string ⟨#[121]⟩,.int .i64 3,.int .i64 4] 52 2 3 rfl;simp only [World.size_alloc] at h;exact h)
 clear HB17 FH_17 FF_17 FY_17 HRK_17 FL_17 FR0_17 hbx
 have hbx:=((Below.refl ((wL.alloc (.cells #[.string ⟨#[114]⟩,.int .u8 2,.slice (some ⟨w.heap.size,0,none⟩) 2 2,.slice (some ⟨w4.heap.size,0,none⟩) 3 3,.slice (some ⟨w8.heap.size,0,none⟩) 3 3] 36)).alloc (.cells #[.string ⟨#[120]⟩,.int .i64 2,.int .i64 3,.string ⟨#[121]⟩,.int .i64 3,.int .i64 4] 52)).heap.size ((wL.alloc (.cells #[.string ⟨#[114]⟩,.int .u8 2,.slice (some ⟨w.heap.size,0,none⟩) 2 2,.slice (some ⟨w4.heap.size,0,none⟩) 3 3,.slice (some ⟨w8.heap.size,0,none⟩) 3 3] 36)).alloc (.cells #[.string ⟨#[120]⟩,.int .i64 2,.int .i64 3,.string ⟨#[121]⟩,.int .i64 3,.int .i64 4] 52))).alloc (Nat.le_refl _) (.cells #[.int .i64 0,.int .i64 1,.slice (some ⟨wL.heap.size+1,0,none⟩) 2 2] 47))
 have HB19:=Hd (zB HB18.out hbx)
 have FH_19:=Hd (FH_18.out.below hbx)
 have FF_19:=Hd (FF_18.out.below hbx)
 have FY_19:=Hd (FY_18.out.below hbx)
 have HRK_19:=Hd (HRK_18.out.below hbx)
 have FL_19:=Hd (FL_18.out.below hbx)
 have FR0_19:=Hd (FR0_18.out.below hbx)
 have FB_19:=Hd (FB_18.out.below hbx)
 have FP_19:Hid (vQ (((wL.alloc (.cells #[.string ⟨#[114]⟩,.int .u8 2,.slice (some ⟨w.heap.size,0,none⟩) 2 2,.slice (some ⟨w4.heap.size,0,none⟩) 3 3,.slice (some ⟨w8.heap.size,0,none⟩) 3 3] 36)).alloc (.cells #[.string ⟨#[120]⟩,.int .i64 2,.int .i64 3,.string ⟨#[121]⟩,.int .i64 3,.int .i64 4] 52)).alloc (.cells #[.int .i64 0,.int .i64 1,.slice (some ⟨wL.heap.size+1,0,none⟩) 2 2] 47)) (.slice (some ⟨wL.heap.size+1+1,0,none⟩) 1 1) [((0,1,fyB),.slice (some ⟨wL.heap.size+1,0,none⟩) 2 2)]):=Hd ⟨(by have h:=jE ((wL.alloc (.cells #[.string ⟨#[114]⟩,.int .u8 2,.slice (some ⟨w.heap.size,0,none⟩) 2 2,.slice (some ⟨w4.heap.size,0,none⟩) 3 3,.slice (some ⟨w8.heap.size,0,none⟩) 3 3] 36)).alloc (.cells #[.string ⟨#[120]⟩,.int .i64 2,.int .i64 3,.string ⟨#[121]⟩,.int .i64 3,.int .i64 4] 52)) #[.int .i64 0,.int .i64 1,.slice (some ⟨wL.heap.size+1,0,none⟩) 2 2] 47 1 3 rfl;simp only [World.size_alloc] at h;exact h),fun x hx=>by obtain rfl:=List.mem_singleton.1 hx;exact FB_19.out⟩
 clear HB18 FH_18 FF_18 FY_18 HRK_18 FL_18 FR0_18 FB_18 hbx
 have CS:=Hd (zKt [(fyR,.slice (some ⟨w.heap.size,0,none⟩) 2 2,.slice (some ⟨w4.heap.size,0,none⟩) 3 3,.slice (some ⟨w8.heap.size,0,none⟩) 3 3)] (fun x hx=>by obtain rfl:=List.mem_singleton.1 hx;exact zSq) fyL zSr [((0,1,fyB),.slice (some ⟨wL.heap.size+1,0,none⟩) 2 2)] ⟨by show (1:Nat)≤1048576;decide,fun x hx=>by obtain rfl:=List.mem_singleton.1 hx;show (2:Nat)≤1048576;decide⟩ _ _ _ (((wL.alloc (.cells #[.string ⟨#[114]⟩,.int .u8 2,.slice (some ⟨w.heap.size,0,none⟩) 2 2,.slice (some ⟨w4.heap.size,0,none⟩) 3 3,.slice (some ⟨w8.heap.size,0,none⟩) 3 3] 36)).alloc (.cells #[.string ⟨#[120]⟩,.int .i64 2,.int .i64 3,.string ⟨#[121]⟩,.int .i64 3,.int .i64 4] 52)).alloc (.cells #[.int .i64 0,.int .i64 1,.slice (some ⟨wL.heap.size+1,0,none⟩) 2 2] 47)) (HT.out.below HB19.out) (HMX.out.below HB19.out) FR0_19.out FL_19.out FP_19.out)
 have CS:Hid (Calls Tryz.prog 7 #[.slice (some ⟨wL.heap.size,0,none⟩) 1 1,.slice (some ⟨w15.heap.size,0,none⟩) 5 5,.slice (some ⟨wL.heap.size+1+1,0,none⟩) 1 1] (((wL.alloc (.cells #[.string ⟨#[114]⟩,.int .u8 2,.slice (some ⟨w.heap.size,0,none⟩) 2 2,.slice (some ⟨w4.heap.size,0,none⟩) 3 3,.slice (some ⟨w8.heap.size,0,none⟩) 3 3] 36)).alloc (.cells #[.string ⟨#[120]⟩,.int .i64 2,.int .i64 3,.string ⟨#[121]⟩,.int .i64 3,.int .i64 4] 52)).alloc (.cells #[.int .i64 0,.int .i64 1,.slice (some ⟨wL.heap.size+1,0,none⟩) 2 2] 47)) (yZ [fyR] fyL [(0,1,fyB)] (((wL.alloc (.cells #[.string ⟨#[114]⟩,.int .u8 2,.slice (some ⟨w.heap.size,0,none⟩) 2 2,.slice (some ⟨w4.heap.size,0,none⟩) 3 3,.slice (some ⟨w8.heap.size,0,none⟩) 3 3] 36)).alloc (.cells #[.string ⟨#[120]⟩,.int .i64 2,.int .i64 3,.string ⟨#[121]⟩,.int .i64 3,.int .i64 4] 52)).alloc (.cells #[.int .i64 0,.int .i64 1,.slice (some ⟨wL.heap.size+1,0,none⟩) 2 2] 47)))):=CS
 go_wp2_with fail
 refine CS.out.mono ?_
 intro e w5 hp
 unfold yZ at hp
 rw [zZk] at hp
 obtain ⟨hb5,ov,nv,rfl,ho5,hn5⟩:=hp
 obtain ⟨oa,oc,rfl,_⟩:∃ a c,ov=.slice a 6 c∧6≤c:=Row.shape (Row.of_owns ho5)
 obtain ⟨na,nc,rfl,_⟩:∃ a c,nv=.slice a 6 c∧6≤c:=Row.shape (Row.of_owns hn5)
 have FO:Hid (zD w5 (.slice oa 6 oc) fyO):=Hd (Row.of_owns ho5)
 have FN:Hid (zI w5 (.slice na 6 nc) .i64 fyN):=Hd (Row.of_owns hn5)
 have HBz:=Hd (zB HB19.out hb5)
 clear hb5 ho5 hn5 CS e0 e1 e2 e3 e4 HB19 FH_19 FF_19 FY_19 HRK_19 FL_19 FR0_19 FB_19 FP_19
 go_wp2_with fail
 refine (jO _ _).mono ?_
 rintro e w20 ⟨rfl,hb⟩
 have HB20:=Hd (zB HBz.out hb)
 have FO_20:=Hd (FO.out.below hb)
 have FN_20:=Hd (FN.out.below hb)
 clear hb HBz FO FN
 go_wp2_with fail
 refine (jO _ _).mono ?_
 rintro e w21 ⟨rfl,hb⟩
 have HB21:=Hd (zB HB20.out hb)
 have FO_21:=Hd (FO_20.out.below hb)
 have FN_21:=Hd (FN_20.out.below hb)
 clear hb HB20 FO_20 FN_20
 go_wp2_with fail
 refine (vS _ _).mono ?_
 rintro e w22 ⟨rfl,hb⟩
 have HB22:=Hd (zB HB21.out hb)
 have FO_22:=Hd (FO_21.out.below hb)
 have FN_22:=Hd (FN_21.out.below hb)
 clear hb HB21 FO_21 FN_21
 go_wp2_with fail
 refine (vS _ _).mono ?_
 rintro e w23 ⟨rfl,hb⟩
 have HB23:=Hd (zB HB22.out hb)
 have FO_23:=Hd (FO_22.out.below hb)
 have FN_23:=Hd (FN_22.out.below hb)
 clear hb HB22 FO_22 FN_22
 go_wp2_with fail
 refine (vS _ _).mono ?_
 rintro e w24 ⟨rfl,hb⟩
 have HB24:=Hd (zB HB23.out hb)
 have FO_24:=Hd (FO_23.out.below hb)
 have FN_24:=Hd (FN_23.out.below hb)
 clear hb HB23 FO_23 FN_23
 have hbx:=((Below.refl w24.heap.size w24).alloc (Nat.le_refl _) (.cells #[.int .u8 37,.int .i64 2,.string ⟨#[42]⟩,.int .u8 28,.int .i64 1,.string ⟨#[]⟩,.int .u8 37,.int .i64 2,.string ⟨#[43]⟩,.int .u8 26,.int .i64 0,.string ⟨#[97]⟩,.int .u8 26,.int .i64 0,.string ⟨#[98]⟩,.int .u8 26,.int .i64 0,.string ⟨#[99]⟩] 38))
 have HB25:=Hd (zB HB24.out hbx)
 have FO_25:=Hd (FO_24.out.below hbx)
 have FN_25:=Hd (FN_24.out.below hbx)
 have FS_25:Hid (zD (w24.alloc (.cells #[.int .u8 37,.int .i64 2,.string ⟨#[42]⟩,.int .u8 28,.int .i64 1,.string ⟨#[]⟩,.int .u8 37,.int .i64 2,.string ⟨#[43]⟩,.int .u8 26,.int .i64 0,.string ⟨#[97]⟩,.int .u8 26,.int .i64 0,.string ⟨#[98]⟩,.int .u8 26,.int .i64 0,.string ⟨#[99]⟩] 38)) (.slice (some ⟨w24.heap.size,0,none⟩) 6 6) fyO):=Hd (jE w24 #[.int .u8 37,.int .i64 2,.string ⟨#[42]⟩,.int .u8 28,.int .i64 1,.string ⟨#[]⟩,.int .u8 37,.int .i64 2,.string ⟨#[43]⟩,.int .u8 26,.int .i64 0,.string ⟨#[97]⟩,.int .u8 26,.int .i64 0,.string ⟨#[98]⟩,.int .u8 26,.int .i64 0,.string ⟨#[99]⟩] 38 6 3 rfl)
 clear HB24 FO_24 FN_24 hbx
 have CC:=Hd (zIp (.slice oa 6 oc) (.slice (some ⟨w24.heap.size,0,none⟩) 6 6) fyO fyO (by decide) (by decide) (w24.alloc (.cells #[.int .u8 37,.int .i64 2,.string ⟨#[42]⟩,.int .u8 28,.int .i64 1,.string ⟨#[]⟩,.int .u8 37,.int .i64 2,.string ⟨#[43]⟩,.int .u8 26,.int .i64 0,.string ⟨#[97]⟩,.int .u8 26,.int .i64 0,.string ⟨#[98]⟩,.int .u8 26,.int .i64 0,.string ⟨#[99]⟩] 38)) FO_25.out FS_25.out)
 go_wp2_with fail
 refine CC.out.mono ?_
 rintro e w26 ⟨x,rfl,hx,hb⟩
 have HB26:=Hd (zB HB25.out hb)
 have FO_26:=Hd (FO_25.out.below hb)
 have FN_26:=Hd (FN_25.out.below hb)
 have FS_26:=Hd (FS_25.out.below hb)
 obtain rfl:x=true:=hx.2 rfl
 clear hb hx CC HB25 FO_25 FN_25 FS_25
 have hbx:=((Below.refl w26.heap.size w26).alloc (Nat.le_refl _) (.cells #[.int .i64 0,.int .i64 (-1),.int .i64 (-1),.int .i64 2,.int .i64 3,.int .i64 4] 3))
 have HB27:=Hd (zB HB26.out hbx)
 have FO_27:=Hd (FO_26.out.below hbx)
 have FN_27:=Hd (FN_26.out.below hbx)
 have FS_27:=Hd (FS_26.out.below hbx)
 have FI_27:Hid (zI (w26.alloc (.cells #[.int .i64 0,.int .i64 (-1),.int .i64 (-1),.int .i64 2,.int .i64 3,.int .i64 4] 3)) (.slice (some ⟨w26.heap.size,0,none⟩) 6 6) .i64 fyN):=Hd (jE w26 #[.int .i64 0,.int .i64 (-1),.int .i64 (-1),.int .i64 2,.int .i64 3,.int .i64 4] 3 6 1 rfl)
 clear HB26 FO_26 FN_26 FS_26 hbx
 have CI:=Hd (zNh (.slice na 6 nc) (.slice (some ⟨w26.heap.size,0,none⟩) 6 6) fyN fyN (by decide) (by decide) (w26.alloc (.cells #[.int .i64 0,.int .i64 (-1),.int .i64 (-1),.int .i64 2,.int .i64 3,.int .i64 4] 3)) FN_27.out FI_27.out)
 rw [decide_eq_true rfl] at CI
 go_wp2_with fail
 refine CI.out.mono ?_
 rintro e wZ ⟨rfl,hbZ⟩
 have HX:=Hd (HQ.out wZ (zB HB27.out hbZ))
 clear hbZ CI
 go_wp2_with fail
 exact HX.out

theorem jP (x:Int) (h0:0≤x) (h1:x≤4000000000):wrap64 x=x:=by
 unfold wrap64
 omega
def lgRel (w:World) (n:Nat) (nv iv:Value) (wr:World):Prop:=∃ (i:Nat) (z:Int),iv=.int .i64 (i:Int)∧nv=.int .i64 z∧i≤n∧0≤z∧z≤3000000000∧Below w.heap.size w wr
theorem zNd (rs:List RuleX) (hs:∀ x∈rs,SmallR x.1) (hn:rs.length≤1048576) (vr:Value) (l:List Prt) (hl:l.length≤1048576) (vl:Value) (P:List PkX) (hpn:P.length≤1048576) (vp:Value) (w:World) (hr:xZ w vr rs) (hlr:zD w vl l) (hp:vQ w vp P) :
  Calls Tryz.prog 5 #[vr,vl,vp] w (AnyBool w):=by
 have HQ:Hid (∀ z w',Below w.heap.size w w'→AnyBool w (.returned (.bool z)) w'):=Hd fun z w' hb=>AnyBool.mk z hb
 generalize AnyBool w=Q at *
 have CG:=Hd (zUc rs hs hn vr 1500 w hr)
 have HS:=Hd hs
 obtain ⟨ar,cr,rfl,hcr⟩:=hr.shape
 obtain ⟨al,cl,rfl,hcl⟩:=hlr.slice
 obtain ⟨ap,cp,rfl,hcp⟩:=hp.shape
 have HR:=Hd hr
 have HP:=Hd hp
 clear hs hr hlr hp
 have HX0:=Hd (fun z=>HQ.out z w (Below.refl _ _))
 go_enter Tryz.func5,Tryz.ntmps5
 by_cases h1:(150:Int)<l.length
 ·go_wp2_with fail
  exact HX0.out _
 by_cases h2:(100:Int)<P.length
 ·go_wp2_with fail
  exact HX0.out _
 by_cases h3:(100:Int)<rs.length
 ·go_wp2_with fail
  exact HX0.out _
 have h1':l.length≤150:=by omega
 have h2':P.length≤100:=by omega
 by_cases h32:(rs.length:Int)≤32
 ·go_wp2_with fail
  refine CG.out.mono ?_
  intro e w2 hh2
  obtain ⟨y,rfl,hb2⟩:=hh2.out
  have HB2:=Hd hb2
  clear hh2 hb2 CG
  cases y with
  | true =>
   have HX:=Hd (fun z=>HQ.out z w2 HB2.out)
   go_wp2_with fail
   exact HX.out _
  | false =>
   go_wp2_with fail
   go_loopw [7,8] (fun nv iv wr=>lgRel w P.length nv iv wr) (fun _ iv _=>P.length-(intOf iv).toNat)
   case atStart=>exact ⟨0,0,rfl,rfl,Nat.zero_le _,by omega,by omega,HB2.out⟩
   case round =>
    obtain ⟨i,z,rfl,rfl,hi,hz0,hz1,hb⟩:=hrel
    have HB:=Hd hb
    clear hb
    by_cases hlt:i<P.length
    case neg =>
     have hli:¬ (i:Int)<P.length:=by omega
     have HX:=Hd (fun z=>HQ.out z wr HB.out)
     go_wp2_with fail
     exact HX.out _
    have hli:(i:Int)<P.length:=by omega
    by_cases hz3:z≤3000
    case neg =>
     have HX:=Hd (fun z=>HQ.out z wr HB.out)
     go_wp2_with fail
     exact HX.out _
    obtain ⟨pb,po,rfl,_,hpc⟩:=HP.out.at HB.out (show 0<P.length by omega)
    obtain ⟨p0,p1,p2⟩:=hpc i hlt
    clear hpc p1 p2
    generalize (P[i]).1.1=pn at *
    have hi0:(0:Int)≤(i:Int):=by omega
    have hic:(i:Int)<cp:=by omega
    have HN:Hid (∀ z',0≤z'→z'≤3000000000→lgRel w P.length (.int .i64 z') (.int .i64 ((i:Int)+1)) wr):=Hd fun z' h1 h2=>⟨i+1,z',by push_cast;rfl,rfl,hlt,h1,h2,HB.out⟩
    by_cases c1:0≤pn
    case neg =>
     have HNX:=Hd (HN.out z hz0 (by omega))
     go_wp2_with fail
     exact ⟨HNX.out,by simp only [intOf];omega⟩
    by_cases c2:pn<rs.length
    case neg =>
     have HNX:=Hd (HN.out z hz0 (by omega))
     go_wp2_with fail
     exact ⟨HNX.out,by simp only [intOf];omega⟩
    obtain ⟨rn,rfl⟩:∃ rn:Nat,pn=(rn:Int):=⟨pn.toNat,by omega⟩
    have hrn:rn<rs.length:=by omega
    obtain ⟨rb,ro,rfl,y1,y2,y3,hrc⟩:=HR.out.at HB.out (show 0<rs.length by omega)
    obtain ⟨r0,r1,r2,r3,r4⟩:=hrc rn hrn
    clear hrc y1 y3 r0 r1 r2 r3
    have hrin:=HR.out.E _ (List.getElem_mem hrn)
    have hsb:=(HS.out _ (List.getElem_mem hrn)).b.1
    generalize rs[rn]=y at *
    obtain ⟨r,vh,vf,vy⟩:=y
    simp only [] at r4 hrin hsb
    obtain ⟨ay,cy,rfl,hcy⟩:=hrin.B.slice
    clear hrin
    generalize r.by'.length=bl at *
    have hrnc:(rn:Int)<cr:=by omega
    have hm0:(0:Int)≤(bl:Int)*((l.length:Int)+1):=Int.mul_nonneg (by omega) (by omega)
    have hm1:(bl:Int)*((l.length:Int)+1)≤1048576*151:=Int.mul_le_mul (by omega) (by omega) (by omega) (by omega)
    have hw1:IntKind.i64.wrap ((l.length:Int)+1)=(l.length:Int)+1:=wI (by omega)
    have hd0:0≤((bl:Int)*((l.length:Int)+1)).tdiv 20:=Int.tdiv_nonneg hm0 (by omega)
    have hd1:((bl:Int)*((l.length:Int)+1)).tdiv 20≤1048576*151:=Int.le_trans (Int.tdiv_le_self _ hm0) hm1
    have hw2:=jP _ hm0 (Int.le_trans hm1 (by decide))
    have hw3:=jP _ hd0 (Int.le_trans hd1 (by decide))
    have hs0:0≤z+((bl:Int)*((l.length:Int)+1)).tdiv 20:=Int.add_nonneg hz0 hd0
    have hs1:z+((bl:Int)*((l.length:Int)+1)).tdiv 20≤3000000000:=Int.le_trans (Int.add_le_add hz3 hd1) (by decide)
    have hw4:=jP _ hs0 (Int.le_trans hs1 (by decide))
    have HNX:=Hd (HN.out _ hs0 hs1)
    clear hs0 hs1
    clear hd0 hd1 hm0 hm1
    have HNY:Hid (lgRel w P.length (.int .i64 (wrap64 (z+((bl:Int)*((l.length:Int)+1)).tdiv 20))) (.int .i64 ((i:Int)+1)) wr):=Hd (by rw [hw4];exact HNX.out)
    clear hw4
    go_wp2_with fail
    exact ⟨HNY.out,by simp only [intOf];omega⟩
 ·have HB2:Hid (Below w.heap.size w w):=Hd (Below.refl _ _)
  go_wp2_with fail
  go_loopw [7,8] (fun nv iv wr=>lgRel w P.length nv iv wr) (fun _ iv _=>P.length-(intOf iv).toNat)
  case atStart=>exact ⟨0,0,rfl,rfl,Nat.zero_le _,by omega,by omega,HB2.out⟩
  case round =>
   obtain ⟨i,z,rfl,rfl,hi,hz0,hz1,hb⟩:=hrel
   have HB:=Hd hb
   clear hb
   by_cases hlt:i<P.length
   case neg =>
    have hli:¬ (i:Int)<P.length:=by omega
    have HX:=Hd (fun z=>HQ.out z wr HB.out)
    go_wp2_with fail
    exact HX.out _
   have hli:(i:Int)<P.length:=by omega
   by_cases hz3:z≤3000
   case neg =>
    have HX:=Hd (fun z=>HQ.out z wr HB.out)
    go_wp2_with fail
    exact HX.out _
   obtain ⟨pb,po,rfl,_,hpc⟩:=HP.out.at HB.out (show 0<P.length by omega)
   obtain ⟨p0,p1,p2⟩:=hpc i hlt
   clear hpc p1 p2
   generalize (P[i]).1.1=pn at *
   have hi0:(0:Int)≤(i:Int):=by omega
   have hic:(i:Int)<cp:=by omega
   have HN:Hid (∀ z',0≤z'→z'≤3000000000→lgRel w P.length (.int .i64 z') (.int .i64 ((i:Int)+1)) wr):=Hd fun z' h1 h2=>⟨i+1,z',by push_cast;rfl,rfl,hlt,h1,h2,HB.out⟩
   by_cases c1:0≤pn
   case neg =>
    have HNX:=Hd (HN.out z hz0 (by omega))
    go_wp2_with fail
    exact ⟨HNX.out,by simp only [intOf];omega⟩
   by_cases c2:pn<rs.length
   case neg =>
    have HNX:=Hd (HN.out z hz0 (by omega))
    go_wp2_with fail
    exact ⟨HNX.out,by simp only [intOf];omega⟩
   obtain ⟨rn,rfl⟩:∃ rn:Nat,pn=(rn:Int):=⟨pn.toNat,by omega⟩
   have hrn:rn<rs.length:=by omega
   obtain ⟨rb,ro,rfl,y1,y2,y3,hrc⟩:=HR.out.at HB.out (show 0<rs.length by omega)
   obtain ⟨r0,r1,r2,r3,r4⟩:=hrc rn hrn
   clear hrc y1 y3 r0 r1 r2 r3
   have hrin:=HR.out.E _ (List.getElem_mem hrn)
   have hsb:=(HS.out _ (List.getElem_mem hrn)).b.1
   generalize rs[rn]=y at *
   obtain ⟨r,vh,vf,vy⟩:=y
   simp only [] at r4 hrin hsb
   obtain ⟨ay,cy,rfl,hcy⟩:=hrin.B.slice
   clear hrin
   generalize r.by'.length=bl at *
   have hrnc:(rn:Int)<cr:=by omega
   have hm0:(0:Int)≤(bl:Int)*((l.length:Int)+1):=Int.mul_nonneg (by omega) (by omega)
   have hm1:(bl:Int)*((l.length:Int)+1)≤1048576*151:=Int.mul_le_mul (by omega) (by omega) (by omega) (by omega)
   have hw1:IntKind.i64.wrap ((l.length:Int)+1)=(l.length:Int)+1:=wI (by omega)
   have hd0:0≤((bl:Int)*((l.length:Int)+1)).tdiv 20:=Int.tdiv_nonneg hm0 (by omega)
   have hd1:((bl:Int)*((l.length:Int)+1)).tdiv 20≤1048576*151:=Int.le_trans (Int.tdiv_le_self _ hm0) hm1
   have hw2:=jP _ hm0 (Int.le_trans hm1 (by decide))
   have hw3:=jP _ hd0 (Int.le_trans hd1 (by decide))
   have hs0:0≤z+((bl:Int)*((l.length:Int)+1)).tdiv 20:=Int.add_nonneg hz0 hd0
   have hs1:z+((bl:Int)*((l.length:Int)+1)).tdiv 20≤3000000000:=Int.le_trans (Int.add_le_add hz3 hd1) (by decide)
   have hw4:=jP _ hs0 (Int.le_trans hs1 (by decide))
   have HNX:=Hd (HN.out _ hs0 hs1)
   clear hs0 hs1
   clear hd0 hd1 hm0 hm1
   have HNY:Hid (lgRel w P.length (.int .i64 (wrap64 (z+((bl:Int)*((l.length:Int)+1)).tdiv 20))) (.int .i64 ((i:Int)+1)) wr):=Hd (by rw [hw4];exact HNX.out)
   clear hw4
   go_wp2_with fail
   exact ⟨HNY.out,by simp only [intOf];omega⟩
end Go.Proofs.YtfalelkfhandfaaGreatDoor
