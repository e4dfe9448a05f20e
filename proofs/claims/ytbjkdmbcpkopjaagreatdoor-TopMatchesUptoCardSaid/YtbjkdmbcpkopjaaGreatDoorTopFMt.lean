/- The statements through the layers: their small functions. -/
import Derived.Test.YtbjkdmbcpkopjaaGreatDoorPrdMt
import Derived.Test.YtbjkdmbcpkopjaaGreatDoorRefMAMt
import Derived.Test.YtbjkdmbcpkopjaaGreatDoorMapUMt
namespace Go.Proofs.YtbjkdmbcpkopjaaGreatDoor
set_option maxRecDepth 100000
set_option maxHeartbeats 32000000
set_option linter.all false
attribute [local irreducible] Calls
open Go.RowKit

theorem yAk (n:Nat) (hn:n<256) (w:World):Calls Tryz.prog 7 #[.int .u8 (n:Int)] w fun e w'=>e=.returned (.int .u8 ((1+n % 4:Nat):Int))∧w=w':=by
 have e1:IntKind.u8.wrap ((n:Int).tmod 4)=((n % 4:Nat):Int):=by rw [Int.tmod_eq_emod_of_nonneg (by omega),IntKind.wrap_u8];omega
 have e2:IntKind.u8.wrap (1+((n % 4:Nat):Int))=((1+n % 4:Nat):Int):=by rw [IntKind.wrap_u8];omega
 go_enter Tryz.func7,Tryz.ntmps7;go_wp2;go_ret;exact ⟨by simp,rfl⟩
theorem zPp (f a:Int) (w:World):Calls Tryz.prog 8 #[.agg #[.int .i64 f,.int .i64 a]] w fun e w'=>e=.returned (.bool (f == 0&&a == 0))∧Below w.heap.size w w':=by
 have HB:∀ x y:Int,Hid (Below w.heap.size w (w.alloc (.cells #[.int .i64 x,.int .i64 y] 28))):=fun x y=>Hd ((bR w.heap.size w).alloc (nR _) _)
 by_cases hf:f=0
 ·by_cases ha:a=0
  ·subst hf;subst ha;go_enter Tryz.func8,Tryz.ntmps8;go_wp2;go_ret;exact ⟨rfl,(HB _ _).out⟩
  ·subst hf;have e:(((0:Int) == 0)&&(a == 0))=false:=by simp [ha]
   rw [e];go_enter Tryz.func8,Tryz.ntmps8;go_wp2;go_ret;exact ⟨rfl,(HB _ _).out⟩
 ·have e:((f == 0)&&(a == 0))=false:=by simp [hf]
  rw [e];go_enter Tryz.func8,Tryz.ntmps8;go_wp2;go_ret;exact ⟨rfl,(HB _ _).out⟩
theorem zWp (s:ByteArray) (hs:s.size≤2147483647) (rs:List RuleX) (hsm:∀ x∈rs,SmallR x.1) (hn:rs.length≤1048576) (vr:Value) (w:World) (hr:xM w vr rs):Calls Tryz.prog 4 #[.string s,vr] w (AnyBool w):=by
 have HQ:Hid (∀ z w',Below w.heap.size w w'→AnyBool w (.returned (.bool z)) w'):=Hd fun z w' hb=>AnyBool.mk z hb;generalize AnyBool w=Q at *;have CG:=Hd (zVm rs hsm hn vr 1000 w hr);obtain ⟨ar,cr,rfl,hcr⟩:=hr.shape;clear hr hsm;go_enter Tryz.func4,Tryz.ntmps4;by_cases h1:1500<s.size
 ·have h1':(1500:Int)<s.size:=by omega
  go_wp2_with fail;exact HQ.out _ _ (bR _ _)
 have h1':¬ (1500:Int)<s.size:=by omega
 by_cases h2:32<rs.length
 ·have h2':(32:Int)<rs.length:=by omega
  go_wp2_with fail;exact HQ.out _ _ (bR _ _)
 have h2':¬ (32:Int)<rs.length:=by omega
 go_wp2_with fail;refine CG.out.mono ?_;intro e w3 h3;obtain ⟨y,rfl,hb3⟩:=h3.out;have HX:=Hd (HQ.out y _ hb3);clear h3 hb3;go_wp2_with fail;exact HX.out
theorem yAl (rs:List RuleX) (hsm:∀ x∈rs,SmallR x.1) (hn:rs.length≤1048576) (vr:Value) (l:List Prt) (hl:l.length≤1048576) (vl:Value) (w:World) (hr:xM w vr rs) (hlr:zF w vl l):Calls Tryz.prog 9 #[vl,vr] w (AnyBool w):=by
 have HQ:Hid (∀ z w',Below w.heap.size w w'→AnyBool w (.returned (.bool z)) w'):=Hd fun z w' hb=>AnyBool.mk z hb;generalize AnyBool w=Q at *;have CG:=Hd (zRy rs (fun x hx=>(hsm x hx).h.1) hn vr l hl vl w hr hlr);obtain ⟨ar,cr,rfl,hcr⟩:=hr.shape;obtain ⟨al,cl,rfl,hcl⟩:=hlr.slice;clear hr hsm hlr;go_enter Tryz.func9,Tryz.ntmps9;by_cases h1:250<l.length
 ·have h1':(250:Int)<l.length:=by omega
  go_wp2_with fail;exact HQ.out _ _ (bR _ _)
 have h1':¬ (250:Int)<l.length:=by omega
 go_wp2_with fail;refine CG.out.mono ?_;intro e w3 h3;obtain ⟨y,rfl,hb3⟩:=h3.out;have HX:=Hd (fun z=>HQ.out z _ hb3);clear h3 hb3;go_wp2_with fail;exact HX.out _
theorem zWq (w:World) (hT:Tabs w) (hM:MaxC w):Calls Tryz.prog 5 #[] w fun e w'=>e=.returned (.bool true)∧Below w.heap.size w w':=by
 have CT:Hid (Calls Tryz.prog 6 #[.int .u8 2,.string ⟨#[97,32,43,32,98,32,47,42,32,99,32,42,47]⟩] w (TermQ awT 2 w)):=Hd (zOi awT (by decide) 2 ⟨by decide,by decide⟩ w hT hM);have CN:=Hd (fun W=>zPp 0 0 W);clear hT hM;go_enter Tryz.func5,Tryz.ntmps5;go_wp2_with fail;refine CT.out.mono ?_;intro e w1 h1;unfold TermQ at h1;obtain ⟨hb1,v,l,f,a,rfl,hr,-,hx⟩:=h1;obtain ⟨rfl,rfl,rfl⟩:=hx ⟨rfl,rfl⟩;obtain ⟨va,vc,rfl,hvc⟩:=hr.slice;obtain ⟨b,off,rfl,x1,x2,x3,hc⟩:=hr.at ((bR _ _).alloc (nR _) (.cells #[.int .i64 0,.int .i64 0] 28)) (by decide);have HB1:=Hd (hb1.alloc hb1.size (.cells #[.int .i64 0,.int .i64 0] 28));have HR:=Hd hr;clear x1 x2 x3 hc hr hb1 CT hx;go_wp2_with fail;refine (CN.out _).mono ?_;rintro e w2 ⟨rfl,hb2⟩;obtain ⟨b',off',e',x1,x2,x3,hc⟩:=HR.out.at (zC ((bR _ _).alloc (nR _) (.cells #[.int .i64 0,.int .i64 0] 28)) hb2) (by decide);simp only [Option.some.injEq,Addr.mk.injEq,and_true] at e';obtain ⟨rfl,rfl⟩:=e';obtain ⟨c0,c1,c2⟩:=hc 0 (by decide);obtain ⟨-,-,c8⟩:=hc 2 (by decide);simp only [awP,List.getElem_cons_zero,List.getElem_cons_succ,Nat.zero_mul,Nat.add_zero] at c0 c1 c2 c8;have HX:=Hd (zC HB1.out hb2);have hl3:awP.length=3:=rfl;rw [hl3] at hvc ⊢;clear x1 x2 x3 hc hb2 CN HR hl3;go_wp2_with fail;go_ret;exact ⟨rfl,HX.out⟩
end Go.Proofs.YtbjkdmbcpkopjaaGreatDoor
