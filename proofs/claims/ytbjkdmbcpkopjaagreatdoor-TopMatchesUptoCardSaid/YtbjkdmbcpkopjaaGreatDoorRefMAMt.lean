/- Layers 16, 17, 18: the references' small functions, walked. -/
import Derived.Test.YtbjkdmbcpkopjaaGreatDoorRulesVMt
import Derived.Test.YtbjkdmbcpkopjaaGreatDoorRuleCheckMt
import Derived.Test.YtbjkdmbcpkopjaaGreatDoorChkPMt
import Derived.BigQuiet
import Derived.Deep.QuietTactic
import Derived.Test.YtbjkdmbcpkopjaaGreatDoorTermMt
namespace Go.Proofs.YtbjkdmbcpkopjaaGreatDoor
set_option maxRecDepth 100000
set_option maxHeartbeats 32000000
set_option linter.all false
attribute [local irreducible] Calls
open Go.RowKit

@[irreducible] def AnyInt (w0:World) (e:Ending) (w':World):Prop:=∃ z:Int,e=.returned (.int .i64 z)∧Below w0.heap.size w0 w'
@[irreducible] def AnyBool (w0:World) (e:Ending) (w':World):Prop:=∃ x:Bool,e=.returned (.bool x)∧Below w0.heap.size w0 w'
theorem AnyInt.mk {w0 w':World} (z:Int) (h:Below w0.heap.size w0 w'):AnyInt w0 (.returned (.int .i64 z)) w':=by unfold AnyInt;exact ⟨z,rfl,h⟩
theorem AnyBool.mk {w0 w':World} (x:Bool) (h:Below w0.heap.size w0 w'):AnyBool w0 (.returned (.bool x)) w':=by unfold AnyBool;exact ⟨x,rfl,h⟩
theorem AnyInt.out {w0 w':World} {e:Ending} (h:AnyInt w0 e w'):∃ z:Int,e=.returned (.int .i64 z)∧Below w0.heap.size w0 w':=by unfold AnyInt at h;exact h
theorem AnyBool.out {w0 w':World} {e:Ending} (h:AnyBool w0 e w'):∃ x:Bool,e=.returned (.bool x)∧Below w0.heap.size w0 w':=by unfold AnyBool at h;exact h
theorem zEq (s:ByteArray) (k:Nat) (w:World) :
  Calls Tryz.prog 14 #[.agg #[.string s,.int .u8 (k:Int)]] w fun e w'=>e=.returned (.bool (isSev k))∧Below w.heap.size w w':=by
 have HX:=Hd ((bR w.heap.size w).alloc (nR _) (.cells #[.string s,.int .u8 (k:Int)] 50));have HQ:Hid (∀ x w',isSev k=x→Below w.heap.size w w'→(fun (e:Ending) w'=>e=.returned (.bool (isSev k))∧Below w.heap.size w w') (.returned (.bool x)) w'):=Hd fun x w' h hb=>⟨by rw [h],hb⟩
 generalize (fun (e:Ending) w'=>e=.returned (.bool (isSev k))∧Below w.heap.size w w')=Q at *;by_cases h6:k=6
 ·subst h6;have HZ:=Hd (HQ.out true _ rfl HX.out);go_enter Tryz.func14,Tryz.ntmps14;go_wp2_with fail;exact HZ.out
 by_cases h7:k=7
 ·subst h7;have HZ:=Hd (HQ.out true _ rfl HX.out);go_enter Tryz.func14,Tryz.ntmps14;go_wp2_with fail;exact HZ.out
 have g6:((k:Int) == 6)=false:=by rw [bE];omega
 have g7:((k:Int) == 7)=false:=by rw [bE];omega
 have HZ:=Hd (HQ.out false _ (by unfold isSev;simp [h6,h7]) HX.out);clear h6 h7;go_enter Tryz.func14,Tryz.ntmps14;go_wp2_with fail;exact HZ.out
def wdRel (l:List Prt) (w:World) (nv iv:Value) (wr:World):Prop:=∃ k:Nat,iv=.int .i64 (k:Int)∧nv=.int .i64 (widest (l.take k))∧k≤l.length∧wr=w
theorem zOs {l:List Prt} {k:Nat} (hk:k<l.length):widest (l.take (k+1))=max (widest (l.take k)) (l[k]).2.1:=by
 rw [jO hk];unfold widest;rw [List.foldl_append];rfl
theorem zRw (l:List Prt) (hl:l.length≤1048576) (v:Value) (w:World) (hr:zF w v l) :
  Calls Tryz.prog 46 #[v] w fun e w'=>e=.returned (.int .i64 (widest l))∧w=w':=by
 have HR:=Hd hr;obtain ⟨va,vc,rfl,hvc⟩:=hr.slice;clear hr;go_enter Tryz.func46,Tryz.ntmps46;go_wp2_with fail;go_loopw [3,4] (fun nv iv wr=>wdRel l w nv iv wr) (fun _ iv _=>l.length-(intOf iv).toNat)
 case atStart=>exact ⟨0,rfl,rfl,Nat.zero_le _,rfl⟩
 case round =>
  obtain ⟨k,rfl,rfl,hk,rfl⟩:=hrel;by_cases hlt:k<l.length
  ·obtain ⟨b,off,rfl,_,_,hbl,hcell⟩:=HR.out.at (bR _ _) (show 0<l.length by omega);obtain ⟨d0,d1,d2⟩:=hcell k hlt;have hk0:(0:Int)≤(k:Int):=by omega
   have hkl:(k:Int)<l.length:=by omega
   have hkc:(k:Int)<vc:=by omega
   have HX:Hid (wdRel l wr (.int .i64 (max (widest (l.take k)) (l[k]).2.1)) (.int .i64 ((k:Int)+1)) wr):=Hd ⟨k+1,by push_cast;rfl,by rw [zOs hlt],hlt,rfl⟩;clear hcell d0 d2;generalize (l[k]).2.1=c at *;generalize widest (l.take k)=m at *;go_wp2_with fail;exact ⟨HX.out,by simp only [intOf];omega⟩
  ·obtain rfl:k=l.length:=by omega
   rw [List.take_length];go_wp2_with fail;go_ret;exact ⟨rfl,rfl⟩
def wyRel (n:Nat) (W0:World) (nv iv:Value) (wr:World):Prop:=∃ (k:Nat) (z:Int),iv=.int .i64 (k:Int)∧nv=.int .i64 z∧k≤n∧Below W0.heap.size W0 wr
theorem zRx (r:RuleM) (hh:r.holes.length≤1048576) (vh vf vb:Value) (l:List Prt) (hl:l.length≤1048576) (vl:Value) (w:World) (hr:RuleIn w r vh vf vb) (hlr:zF w vl l) :
  Calls Tryz.prog 29 #[ruleAgg r vh vf vb,vl] w (AnyInt w):=by
 obtain ⟨ah,ch,rfl,hch⟩:=Row.shape hr.H;obtain ⟨af,cf,rfl,hcf⟩:=hr.F.slice;obtain ⟨ab,cb,rfl,hcb⟩:=hr.B.slice;obtain ⟨al,cl,rfl,hcl⟩:=hlr.slice;have HQ:Hid (∀ z w',Below w.heap.size w w'→AnyInt w (.returned (.int .i64 z)) w'):=Hd fun z w' hb=>AnyInt.mk z hb;generalize AnyInt w=Q at *;unfold ruleAgg;have HR1:Hid (RK (w.alloc (.cells #[.string r.nm,.int .u8 (r.goal:Int),.slice ah r.holes.length ch,.slice af r.fnd.length cf,.slice ab r.by'.length cb] 41)) w.heap.size r.nm r.goal (.slice ah r.holes.length ch) (.slice af r.fnd.length cf) (.slice ab r.by'.length cb)):=Hd (heap_alloc_new _ _);have HB1:Hid (Below w.heap.size w (w.alloc (.cells #[.string r.nm,.int .u8 (r.goal:Int),.slice ah r.holes.length ch,.slice af r.fnd.length cf,.slice ab r.by'.length cb] 41))):=Hd ((bR _ _).alloc (nR _) _);have HH:=Hd hr.H;have HLR:=Hd hlr;clear hr hlr;go_enter Tryz.func29,Tryz.ntmps29;go_wp2_with fail;generalize w.alloc (.cells #[.string r.nm,.int .u8 (r.goal:Int),.slice ah r.holes.length ch,.slice af r.fnd.length cf,.slice ab r.by'.length cb] 41)=W0 at *;go_loopw [5,6] (fun nv iv wr=>wyRel r.holes.length W0 nv iv wr) (fun _ iv _=>r.holes.length-(intOf iv).toNat)
 case atStart=>exact ⟨0,1,rfl,rfl,Nat.zero_le _,bR _ _⟩
 case round =>
  obtain ⟨k,z,rfl,rfl,hk,hb⟩:=hrel;have HB:=Hd hb;clear hb;obtain ⟨e0,e1,e2,e3,e4⟩:=(HR1.out.below HB.out).cells;by_cases hlt:k<r.holes.length
  ·by_cases hz:z<1000000
   ·obtain ⟨b,off,rfl,_,_,hbl,hcell⟩:=HH.out.at (zC HB1.out HB.out) (show 0<r.holes.length by omega);obtain ⟨d0,d1⟩:=hcell k hlt;have hk0:(0:Int)≤(k:Int):=by omega
    have hkl:(k:Int)<r.holes.length:=by omega
    have hkc:(k:Int)<ch:=by omega
    generalize r.holes[k]=y at *;obtain ⟨yn,yk⟩:=y;simp only [] at d0 d1;have CS:=Hd (zEq yn yk wr);clear hcell;go_wp2_with fail;refine CS.out.mono ?_;rintro e w2 ⟨rfl,hb2⟩;have HB2:=Hd (zC HB.out hb2);clear hb2 CS e0 e1 e2 e3 e4 d0 d1;cases hs:isSev yk with
    | false =>
     go_wp2_with fail;exact ⟨⟨k+1,z,by push_cast;rfl,rfl,hlt,HB2.out⟩,by simp only [intOf];omega⟩
    | true =>
     have CW:=Hd (zRw l hl _ w2 (HLR.out.below (zC HB1.out HB2.out)));go_wp2_with fail;refine CW.out.mono ?_;rintro e w3 ⟨rfl,rfl⟩;generalize widest l=m;go_wp2_with fail;all_goals exact ⟨⟨k+1,_,by push_cast;rfl,rfl,hlt,HB2.out⟩,by simp only [intOf];omega⟩
   ·have hz':¬ z<1000000:=hz;have HX:=Hd (HQ.out z wr (zC HB1.out HB.out));have hkl:(k:Int)<r.holes.length:=by omega
    go_wp2_with fail;exact HX.out
  ·obtain rfl:k=r.holes.length:=by omega
   have HX:=Hd (HQ.out z wr (zC HB1.out HB.out));go_wp2_with fail;exact HX.out
theorem zRy (rs:List RuleX) (hs:∀ x∈rs,x.1.holes.length≤1048576) (hn:rs.length≤1048576) (vr:Value) (l:List Prt) (hl:l.length≤1048576) (vl:Value) (w:World) (hr:xM w vr rs) (hlr:zF w vl l) :
  Calls Tryz.prog 22 #[vr,vl] w (AnyInt w):=by
 obtain ⟨ar,cr,rfl,hcr⟩:=hr.shape;obtain ⟨al,cl,rfl,hcl⟩:=hlr.slice;have HQ:Hid (∀ z w',Below w.heap.size w w'→AnyInt w (.returned (.int .i64 z)) w'):=Hd fun z w' hb=>AnyInt.mk z hb;generalize AnyInt w=Q at *;have HS:=Hd hs;have HR:=Hd hr;have HLR:=Hd hlr;clear hr hlr hs;go_enter Tryz.func22,Tryz.ntmps22;go_wp2_with fail;go_loopw [5,6] (fun nv iv wr=>wyRel rs.length w nv iv wr) (fun _ iv _=>rs.length-(intOf iv).toNat)
 case atStart=>exact ⟨0,0,rfl,rfl,Nat.zero_le _,bR _ _⟩
 case round =>
  obtain ⟨k,z,rfl,rfl,hk,hb⟩:=hrel;have HB:=Hd hb;clear hb;by_cases hlt:k<rs.length
  ·by_cases hz:k<40
   ·obtain ⟨b,off,rfl,_,_,hbl,hcell⟩:=HR.out.at HB.out (show 0<rs.length by omega);obtain ⟨d0,d1,d2,d3,d4⟩:=hcell k hlt;have hk0:(0:Int)≤(k:Int):=by omega
    have hkl:(k:Int)<rs.length:=by omega
    have hkc:(k:Int)<cr:=by omega
    have hk40:(k:Int)<40:=by omega
    have hin:=HR.out.E _ (gM hlt);have hsm:=HS.out _ (gM hlt);generalize rs[k]=x at *;obtain ⟨r,vh,vf,vb⟩:=x;simp only [] at d0 d1 d2 d3 d4 hin hsm;have CW:=Hd (zRx r hsm _ _ _ l hl _ wr (hin.below HB.out) (HLR.out.below HB.out));obtain ⟨ah,ch,rfl,hch⟩:=Row.shape hin.H;obtain ⟨af,cf,rfl,hcf⟩:=hin.F.slice;obtain ⟨ab,cb,rfl,hcb⟩:=hin.B.slice;unfold ruleAgg at CW;clear hcell hin hsm hz;go_wp2_with fail;refine CW.out.mono ?_;intro e w2 h2;obtain ⟨y,rfl,hb2⟩:=h2.out;have HB2:=Hd (zC HB.out hb2);clear h2 hb2 CW d0 d1 d2 d3 d4;go_wp2_with fail;all_goals exact ⟨⟨k+1,_,by push_cast;rfl,rfl,hlt,HB2.out⟩,by simp only [intOf];omega⟩
   ·have hk40:¬ (k:Int)<40:=by omega
    have hkl:(k:Int)<rs.length:=by omega
    have HX:=Hd (HQ.out z wr HB.out);go_wp2_with fail;exact HX.out
  ·obtain rfl:k=rs.length:=by omega
   have HX:=Hd (HQ.out z wr HB.out);go_wp2_with fail;exact HX.out
def grRel (n:Nat) (W0:World) (nv iv:Value) (wr:World):Prop:=∃ (k:Nat) (z:Int),iv=.int .i64 (k:Int)∧nv=.int .i64 z∧k≤n∧Below W0.heap.size W0 wr
theorem zVm (rs:List RuleX) (hs:∀ x∈rs,SmallR x.1) (hn:rs.length≤1048576) (vr:Value) (most:Int) (w:World) (hr:xM w vr rs) :
  Calls Tryz.prog 18 #[vr,.int .i64 most] w (AnyBool w):=by
 obtain ⟨ar,cr,rfl,hcr⟩:=hr.shape;have HQ:Hid (∀ z w',Below w.heap.size w w'→AnyBool w (.returned (.bool z)) w'):=Hd fun z w' hb=>AnyBool.mk z hb;generalize AnyBool w=Q at *;have HS:=Hd hs;have HR:=Hd hr;clear hr hs;go_enter Tryz.func18,Tryz.ntmps18;go_wp2_with fail;go_loopw [5,6] (fun nv iv wr=>grRel rs.length w nv iv wr) (fun _ iv _=>rs.length-(intOf iv).toNat)
 case atStart=>exact ⟨0,0,rfl,rfl,Nat.zero_le _,bR _ _⟩
 case round =>
  obtain ⟨k,z,rfl,rfl,hk,hb⟩:=hrel;have HB:=Hd hb;clear hb;by_cases hlt:k<rs.length
  case neg =>
   obtain rfl:k=rs.length:=by omega
   have HX:=Hd (fun x=>HQ.out x wr HB.out);go_wp2_with fail;exact HX.out _
  by_cases hz:z≤most
  case neg =>
   have hkl:(k:Int)<rs.length:=by omega
   have HX:=Hd (fun x=>HQ.out x wr HB.out);go_wp2_with fail;exact HX.out _
  have hk0:(0:Int)≤(k:Int):=by omega
  have hkl:(k:Int)<rs.length:=by omega
  have hkc:(k:Int)<cr:=by omega
  have hin:=HR.out.E _ (gM hlt);have hsm:=HS.out _ (gM hlt);obtain ⟨b,off,rfl,_,_,hbl,hcell⟩:=HR.out.at HB.out (show 0<rs.length by omega);have hc:=hcell k hlt;have HC:Hid (∀ W,Below w.heap.size w W→W.cell? ⟨b,off+k*5,none⟩=some (.string (rs[k]).1.nm)∧W.cell? ⟨b,off+k*5+2,none⟩=some (rs[k]).2.1∧W.cell? ⟨b,off+k*5+3,none⟩=some (rs[k]).2.2.1∧W.cell? ⟨b,off+k*5+4,none⟩=some (rs[k]).2.2.2):=Hd fun W hW=>by
   obtain ⟨b',off',e,_,_,_,hc2⟩:=HR.out.at hW (show 0<rs.length by omega);cases e
   obtain ⟨c0,_,c2,c3,c4⟩:=hc2 k hlt;exact ⟨c0,c2,c3,c4⟩
  clear hcell hc;generalize rs[k]=x at *;obtain ⟨r,vh,vf,vb⟩:=x;simp only [] at hin hsm HC;obtain ⟨ah,ch,rfl,hch⟩:=Row.shape hin.H;obtain ⟨af,cf,rfl,hcf⟩:=hin.F.slice;obtain ⟨ab,cb,rfl,hcb⟩:=hin.B.slice;have HIN:=Hd hin;have HSM:=Hd hsm;have hlh:=hsm.h.1;have hlf:=hsm.f.1;have hlb:=hsm.b.1;have hln:=hsm.n;clear hin hsm;obtain ⟨c0,c2,c3,c4⟩:=HC.out _ HB.out;go_upto_region 5 with (fail);go_quiet (fail);have HB1:=Hd (drewB HB.out nq);clear c0 c2 c3 c4;generalize wr.drewN nq=w1 at *;go_wp2_with fail;go_loopw [5,7] (fun nv iv wr=>grRel r.holes.length w nv iv wr) (fun _ iv _=>r.holes.length-(intOf iv).toNat)
  case atStart=>exact ⟨0,_,rfl,rfl,Nat.zero_le _,HB1.out⟩
  case round =>
   obtain ⟨j1,z1,rfl,rfl,hj1,hb1⟩:=hrel;have HBX:=Hd hb1;clear hb1;obtain ⟨c0,c2,c3,c4⟩:=HC.out _ HBX.out;by_cases hlt1:j1<r.holes.length
   ·by_cases hzz:z1≤most
    ·have hq0:(0:Int)≤(j1:Int):=by omega
     have hql:(j1:Int)<r.holes.length:=by omega
     have hqc:(j1:Int)<ch:=by omega
     obtain ⟨b1,o1,rfl,_,_,_,hcc⟩:=HIN.out.H.at HBX.out (show 0<r.holes.length by omega);have hd:=hcc j1 hlt1;have hsz:=HSM.out.h.2 _ (gM hlt1);generalize (r.holes[j1])=y at *;obtain ⟨yn,yk⟩:=y;simp only [] at hd hsz;obtain ⟨d0,d1⟩:=hd;obtain ⟨s0,s1⟩:=hsz;clear hcc;go_wp2_with fail;all_goals exact ⟨⟨j1+1,_,by push_cast;rfl,rfl,hlt1,HBX.out⟩,by simp only [intOf];omega⟩
    ·have hql:(j1:Int)<r.holes.length:=by omega
     go_wp2_with fail;go_loopw [5,8] (fun nv iv wr=>grRel r.fnd.length w nv iv wr) (fun _ iv _=>r.fnd.length-(intOf iv).toNat)
     case atStart=>exact ⟨0,_,rfl,rfl,Nat.zero_le _,HBX.out⟩
     case round =>
      obtain ⟨j2,z2,rfl,rfl,hj2,hb2⟩:=hrel;have HBX:=Hd hb2;clear hb2;obtain ⟨c0,c2,c3,c4⟩:=HC.out _ HBX.out;by_cases hlt2:j2<r.fnd.length
      ·by_cases hzz:z2≤most
       ·have hq0:(0:Int)≤(j2:Int):=by omega
        have hql:(j2:Int)<r.fnd.length:=by omega
        have hqc:(j2:Int)<cf:=by omega
        obtain ⟨b2,o2,rfl,_,_,_,hcc⟩:=HIN.out.F.at HBX.out (show 0<r.fnd.length by omega);have hd:=hcc j2 hlt2;have hsz:=HSM.out.f.2 _ (gM hlt2);generalize (r.fnd[j2])=y at *;obtain ⟨yk,yn,yw⟩:=y;simp only [] at hd hsz;obtain ⟨d0,d1,d2⟩:=hd;obtain ⟨s0,s1⟩:=hsz;clear hcc;go_wp2_with fail;all_goals exact ⟨⟨j2+1,_,by push_cast;rfl,rfl,hlt2,HBX.out⟩,by simp only [intOf];omega⟩
       ·have hql:(j2:Int)<r.fnd.length:=by omega
        go_wp2_with fail;go_loopw [5,9] (fun nv iv wr=>grRel r.by'.length w nv iv wr) (fun _ iv _=>r.by'.length-(intOf iv).toNat)
        case atStart=>exact ⟨0,_,rfl,rfl,Nat.zero_le _,HBX.out⟩
        case round =>
         obtain ⟨j3,z3,rfl,rfl,hj3,hb3⟩:=hrel;have HBX:=Hd hb3;clear hb3;obtain ⟨c0,c2,c3,c4⟩:=HC.out _ HBX.out;by_cases hlt3:j3<r.by'.length
         ·by_cases hzz:z3≤most
          ·have hq0:(0:Int)≤(j3:Int):=by omega
           have hql:(j3:Int)<r.by'.length:=by omega
           have hqc:(j3:Int)<cb:=by omega
           obtain ⟨b3,o3,rfl,_,_,_,hcc⟩:=HIN.out.B.at HBX.out (show 0<r.by'.length by omega);have hd:=hcc j3 hlt3;have hsz:=HSM.out.b.2 _ (gM hlt3);generalize (r.by'[j3])=y at *;obtain ⟨yk,yn,yw⟩:=y;simp only [] at hd hsz;obtain ⟨d0,d1,d2⟩:=hd;obtain ⟨s0,s1⟩:=hsz;clear hcc;go_wp2_with fail;all_goals exact ⟨⟨j3+1,_,by push_cast;rfl,rfl,hlt3,HBX.out⟩,by simp only [intOf];omega⟩
          ·have hql:(j3:Int)<r.by'.length:=by omega
           go_wp2_with fail;exact ⟨⟨k+1,_,by push_cast;rfl,rfl,hlt,HBX.out⟩,by simp only [intOf];omega⟩
         ·obtain rfl:j3=r.by'.length:=by omega
          go_wp2_with fail;exact ⟨⟨k+1,_,by push_cast;rfl,rfl,hlt,HBX.out⟩,by simp only [intOf];omega⟩
      ·obtain rfl:j2=r.fnd.length:=by omega
       go_wp2_with fail;go_loopw [5,9] (fun nv iv wr=>grRel r.by'.length w nv iv wr) (fun _ iv _=>r.by'.length-(intOf iv).toNat)
       case atStart=>exact ⟨0,_,rfl,rfl,Nat.zero_le _,HBX.out⟩
       case round =>
        obtain ⟨j3,z3,rfl,rfl,hj3,hb3⟩:=hrel;have HBX:=Hd hb3;clear hb3;obtain ⟨c0,c2,c3,c4⟩:=HC.out _ HBX.out;by_cases hlt3:j3<r.by'.length
        ·by_cases hzz:z3≤most
         ·have hq0:(0:Int)≤(j3:Int):=by omega
          have hql:(j3:Int)<r.by'.length:=by omega
          have hqc:(j3:Int)<cb:=by omega
          obtain ⟨b3,o3,rfl,_,_,_,hcc⟩:=HIN.out.B.at HBX.out (show 0<r.by'.length by omega);have hd:=hcc j3 hlt3;have hsz:=HSM.out.b.2 _ (gM hlt3);generalize (r.by'[j3])=y at *;obtain ⟨yk,yn,yw⟩:=y;simp only [] at hd hsz;obtain ⟨d0,d1,d2⟩:=hd;obtain ⟨s0,s1⟩:=hsz;clear hcc;go_wp2_with fail;all_goals exact ⟨⟨j3+1,_,by push_cast;rfl,rfl,hlt3,HBX.out⟩,by simp only [intOf];omega⟩
         ·have hql:(j3:Int)<r.by'.length:=by omega
          go_wp2_with fail;exact ⟨⟨k+1,_,by push_cast;rfl,rfl,hlt,HBX.out⟩,by simp only [intOf];omega⟩
        ·obtain rfl:j3=r.by'.length:=by omega
         go_wp2_with fail;exact ⟨⟨k+1,_,by push_cast;rfl,rfl,hlt,HBX.out⟩,by simp only [intOf];omega⟩
   ·obtain rfl:j1=r.holes.length:=by omega
    go_wp2_with fail;go_loopw [5,8] (fun nv iv wr=>grRel r.fnd.length w nv iv wr) (fun _ iv _=>r.fnd.length-(intOf iv).toNat)
    case atStart=>exact ⟨0,_,rfl,rfl,Nat.zero_le _,HBX.out⟩
    case round =>
     obtain ⟨j2,z2,rfl,rfl,hj2,hb2⟩:=hrel;have HBX:=Hd hb2;clear hb2;obtain ⟨c0,c2,c3,c4⟩:=HC.out _ HBX.out;by_cases hlt2:j2<r.fnd.length
     ·by_cases hzz:z2≤most
      ·have hq0:(0:Int)≤(j2:Int):=by omega
       have hql:(j2:Int)<r.fnd.length:=by omega
       have hqc:(j2:Int)<cf:=by omega
       obtain ⟨b2,o2,rfl,_,_,_,hcc⟩:=HIN.out.F.at HBX.out (show 0<r.fnd.length by omega);have hd:=hcc j2 hlt2;have hsz:=HSM.out.f.2 _ (gM hlt2);generalize (r.fnd[j2])=y at *;obtain ⟨yk,yn,yw⟩:=y;simp only [] at hd hsz;obtain ⟨d0,d1,d2⟩:=hd;obtain ⟨s0,s1⟩:=hsz;clear hcc;go_wp2_with fail;all_goals exact ⟨⟨j2+1,_,by push_cast;rfl,rfl,hlt2,HBX.out⟩,by simp only [intOf];omega⟩
      ·have hql:(j2:Int)<r.fnd.length:=by omega
       go_wp2_with fail;go_loopw [5,9] (fun nv iv wr=>grRel r.by'.length w nv iv wr) (fun _ iv _=>r.by'.length-(intOf iv).toNat)
       case atStart=>exact ⟨0,_,rfl,rfl,Nat.zero_le _,HBX.out⟩
       case round =>
        obtain ⟨j3,z3,rfl,rfl,hj3,hb3⟩:=hrel;have HBX:=Hd hb3;clear hb3;obtain ⟨c0,c2,c3,c4⟩:=HC.out _ HBX.out;by_cases hlt3:j3<r.by'.length
        ·by_cases hzz:z3≤most
         ·have hq0:(0:Int)≤(j3:Int):=by omega
          have hql:(j3:Int)<r.by'.length:=by omega
          have hqc:(j3:Int)<cb:=by omega
          obtain ⟨b3,o3,rfl,_,_,_,hcc⟩:=HIN.out.B.at HBX.out (show 0<r.by'.length by omega);have hd:=hcc j3 hlt3;have hsz:=HSM.out.b.2 _ (gM hlt3);generalize (r.by'[j3])=y at *;obtain ⟨yk,yn,yw⟩:=y;simp only [] at hd hsz;obtain ⟨d0,d1,d2⟩:=hd;obtain ⟨s0,s1⟩:=hsz;clear hcc;go_wp2_with fail;all_goals exact ⟨⟨j3+1,_,by push_cast;rfl,rfl,hlt3,HBX.out⟩,by simp only [intOf];omega⟩
         ·have hql:(j3:Int)<r.by'.length:=by omega
          go_wp2_with fail;exact ⟨⟨k+1,_,by push_cast;rfl,rfl,hlt,HBX.out⟩,by simp only [intOf];omega⟩
        ·obtain rfl:j3=r.by'.length:=by omega
         go_wp2_with fail;exact ⟨⟨k+1,_,by push_cast;rfl,rfl,hlt,HBX.out⟩,by simp only [intOf];omega⟩
     ·obtain rfl:j2=r.fnd.length:=by omega
      go_wp2_with fail;go_loopw [5,9] (fun nv iv wr=>grRel r.by'.length w nv iv wr) (fun _ iv _=>r.by'.length-(intOf iv).toNat)
      case atStart=>exact ⟨0,_,rfl,rfl,Nat.zero_le _,HBX.out⟩
      case round =>
       obtain ⟨j3,z3,rfl,rfl,hj3,hb3⟩:=hrel;have HBX:=Hd hb3;clear hb3;obtain ⟨c0,c2,c3,c4⟩:=HC.out _ HBX.out;by_cases hlt3:j3<r.by'.length
       ·by_cases hzz:z3≤most
        ·have hq0:(0:Int)≤(j3:Int):=by omega
         have hql:(j3:Int)<r.by'.length:=by omega
         have hqc:(j3:Int)<cb:=by omega
         obtain ⟨b3,o3,rfl,_,_,_,hcc⟩:=HIN.out.B.at HBX.out (show 0<r.by'.length by omega);have hd:=hcc j3 hlt3;have hsz:=HSM.out.b.2 _ (gM hlt3);generalize (r.by'[j3])=y at *;obtain ⟨yk,yn,yw⟩:=y;simp only [] at hd hsz;obtain ⟨d0,d1,d2⟩:=hd;obtain ⟨s0,s1⟩:=hsz;clear hcc;go_wp2_with fail;all_goals exact ⟨⟨j3+1,_,by push_cast;rfl,rfl,hlt3,HBX.out⟩,by simp only [intOf];omega⟩
        ·have hql:(j3:Int)<r.by'.length:=by omega
         go_wp2_with fail;exact ⟨⟨k+1,_,by push_cast;rfl,rfl,hlt,HBX.out⟩,by simp only [intOf];omega⟩
       ·obtain rfl:j3=r.by'.length:=by omega
        go_wp2_with fail;exact ⟨⟨k+1,_,by push_cast;rfl,rfl,hlt,HBX.out⟩,by simp only [intOf];omega⟩
end Go.Proofs.YtbjkdmbcpkopjaaGreatDoor
namespace Go.Proofs.YtbjkdmbcpkopjaaGreatDoor
set_option linter.all false
open Go.RowKit

theorem zPy:(Tryz.prog.info? 4).map (fun i=>(i.zero,i.size,i.bytes))=some (some (.bool false),1,1):=by kernel_rfl
theorem zMn (n:Nat) (hn:n≤1000000000) (w:World) :
  (Instr.makeSlice 106 (.int .i64 (n:Int)) (.int .i64 (n:Int))).run Tryz.prog w=.ok (.slice (some ⟨w.heap.size,0,none⟩) n n) (w.alloc (.cells (List.replicate n (Value.bool false)).toArray 4)):=by
 obtain ⟨i,hi,hz,hsz,hb⟩:=info_parts zPy;have hr:=run_make (P:=Tryz.prog) w 106 4 i (.bool false) Tryz.underlying106 hi hz .i64 .i64 (n:Int) (n:Int) (by omega) (Int.le_refl _) (by rw [hb];omega) (by omega);rw [hsz] at hr;have e:madeCells (Value.bool false).cells ((n:Int).toNat*1)=(List.replicate n (Value.bool false)).toArray:=by
  apply Array.ext';rw [Int.toNat_natCast,Nat.mul_one];show (madeCells #[.bool false] n).toList=_;rw [toList_madeCells_one]
 rw [e] at hr;rw [hr];simp only [Int.toNat_natCast]
def atE (r:RuleM) (l:List Prt) (g bm:Nat) (vf vl vfe ve vk vb vz:Value):SkE:=⟨r.fnd,l,r.holes,g,vf,vl,vfe,ve,vk,bm,r.holes.length,vb,vz,g+1⟩
theorem Row.owned {w:World} {B:Nat} {v:Value} {e:TypeId} {size n:Nat} {xs:List Value} (h:w.ownsRow B e size v n xs):Row w v n size xs:=Row.of_owns h
theorem AtW.search {r:RuleM} {l:List Prt} {g bm:Nat} {vf vl vfe ve vk vb:Value} {X:List (Nat×Hl)} {B0:Nat} {w0 W8 W:World} (h:AtW g bm r.holes r.holes r.holes vf vl vfe ve vk vb X B0 w0 W8 W) (hg:g=W8.heap.size)
  (F:zF W8 vf r.fnd) (L:zF W8 vl l) (FE:zI W8 vfe .i64 (endsL r.fnd)) (LE:zI W8 ve .i64 (endsL l)) (M8:MapIs W8 bm 0 (holeM [])) (hf0:0<r.fnd.length) (hl0:0<l.length) (hn:r.holes.length≤1000000) :
  SkIn (atE r l g bm vf vl vfe ve vk vb (.slice (some ⟨W.heap.size,0,none⟩) r.holes.length r.holes.length)) (startS r.holes) ((W.alloc (.cells (List.replicate r.holes.length (Value.bool false)).toArray 4)).setCell ⟨g,7,none⟩ (.slice (some ⟨W.heap.size,0,none⟩) r.holes.length r.holes.length)):=by
 have hl:=h.lt;have hbs:=h.base;have h1:=h.alloc (.cells (List.replicate r.holes.length (Value.bool false)).toArray 4);generalize hvz:(Value.slice (some ⟨W.heap.size,0,none⟩) r.holes.length r.holes.length)=vz at *;have hzo:vz.ownBlock=some W.heap.size:=by rw [← hvz];rfl
 have hzr:(W.alloc (.cells (List.replicate r.holes.length (Value.bool false)).toArray 4)).ownsRow (g+1) 4 1 vz r.holes.length (boundV (startS r.holes)):=by
  rw [← hvz,zMm];exact ⟨by simp,Or.inr ⟨W.heap.size,r.holes.length,_,rfl,hbs,heap_alloc_new _ _,nR _,by unfold maxLen;omega,by simp,by simp⟩⟩
 have hnk:∀ j,j≤g→some j≠vk.ownBlock:=fun j hj e=>by have:=(h.k.lt j e.symm).1;omega
 have hnb:∀ j,j≤g→some j≠vb.ownBlock:=fun j hj e=>by have:=(h.b.lt j e.symm).1;omega
 have hnz:∀ j,j<W.heap.size→some j≠vz.ownBlock:=fun j hj e=>by rw [hzo] at e;have:=Option.some.inj e;omega
 have hkz:vk.ownBlock=none∨vk.ownBlock≠vz.ownBlock:=by
  cases e:vk.ownBlock with
  | none=>exact Or.inl rfl
  | some q=>exact Or.inr (hnz q (h.k.lt q e).2)
 have hkb:∀ q,vk.ownBlock=some q→some q≠vb.ownBlock:=fun q e e2=>by
  rcases h.k.2 with ⟨hv,_⟩ | ⟨g1,c1,cur1,hv1,_,hh1,_⟩
  ·rw [hv] at e;simp [Value.ownBlock] at e
  ·rcases h.b.2 with ⟨hv,_⟩ | ⟨g2,c2,cur2,hv2,_,hh2,_⟩
   ·rw [hv] at e2;simp [Value.ownBlock] at e2
   ·rw [hv1] at e;rw [hv2] at e2;simp [Value.ownBlock] at e e2;subst e;subst e2;rw [hh1] at hh2;simp at hh2
 have es:(W.alloc (.cells (List.replicate r.holes.length (Value.bool false)).toArray 4)).heap.size=W.heap.size+1:=by simp
 generalize hWA:W.alloc (.cells (List.replicate r.holes.length (Value.bool false)).toArray 4)=WA at *;have hWA':∀ j,j<W.heap.size→WA.heap[j]?=W.heap[j]?:=fun j hj=>by rw [← hWA];exact Below.heap_alloc _ _ _ hj
 have hset:∀ j,j≠g→(WA.setCell ⟨g,7,none⟩ vz).heap[j]?=WA.heap[j]?:=fun j hj=>heap_setCell_other _ _ _ _ hj;have hss:(WA.setCell ⟨g,7,none⟩ vz).heap.size=WA.heap.size:=by simp
 have hcell:=heap_setCell_same WA g 7 _ _ vz h1.s;generalize WA.setCell ⟨g,7,none⟩ vz=WF at *;have own2:∀ {e:TypeId} {sz n:Nat} {v:Value} {xs:List Value},WA.ownsRow (g+1) e sz v n xs→WF.ownsRow (g+1) e sz v n xs:=fun {e sz n v xs} ho=>by
  refine ⟨ho.1,?_⟩;rcases ho.2 with h2 | ⟨q,cap,cur,hv,hq,hh,rest⟩
  ·exact Or.inl h2
  ·exact Or.inr ⟨q,cap,cur,hv,hq,by rw [hset q (by omega)];exact hh,rest⟩
 have hold:∀ j,j<g→j≠bm→WF.heap[j]?=W8.heap[j]?:=fun j h1 h2=>by rw [hset j (by omega),hWA' j (by omega)];exact h.old j h1 h2
 have hrow:∀ {v:Value} {n sz:Nat} {cs:List Value} {w':World},Row W8 v n sz cs→0<n→0<sz→KeptX (atE r l g bm vf vl vfe ve vk vb vz) WF w'→Row w' v n sz cs:=fun {v n sz cs w'} hr hn hs hk=>by
  refine Row.same hr fun q hq hlt=>?_;have hne:=Row.no_map hr hn hs M8 q hq;have hqs:q<WF.heap.size:=by omega
  exact ⟨Nat.lt_of_lt_of_le hqs hk.size,by rw [hk.block q hqs (hnb q (by omega)) (hnz q (by omega)),hold q (by omega) hne]⟩
 refine ⟨fun w' hk=>⟨?_,hrow F hf0 (by decide) hk,hrow L hl0 (by decide) hk,hrow FE (by rw [yC];exact hf0) (by decide) hk,hrow LE (by rw [yC];exact hl0) (by decide) hk,?_,?_⟩,?_,own2 hzr,by unfold startS;simp [atE],fun k q hq=>absurd hq (zBf _ _ _)⟩
 ·have:=hk.block g (by omega) (hnb g (nR _)) (hnz g (by omega));show w'.heap[g]?=_;rw [this,hcell];rfl
 ·refine h.m.same ?_;rw [hk.block bm (by omega) (hnb bm (by omega)) (hnz bm (by omega)),hset bm (by omega),hWA' bm (by omega)]
 ·have hr0:Row WF vk r.holes.length 1 (kindsV r.holes):=Row.owned (own2 h1.k);have hr1:zI WF vk .u8 (kindsI r.holes):=by
   have e:(kindsI r.holes).length=r.holes.length:=by unfold kindsI;simp
   unfold zI;rw [e];exact hr0
  refine Row.same hr1 fun q hq hlt=>⟨Nat.lt_of_lt_of_le hlt hk.size,hk.block q hlt (hkb q hq) ?_⟩
  have hq':vk.ownBlock=some q:=hq;show some q≠vz.ownBlock;rcases hkz with e | e
  ·rw [hq'] at e;cases e
  ·rw [← hq'];exact e
 ·have:=own2 h1.b;show WF.ownsRow (g+1) 46 3 vb r.holes.length (bindsV (bindsOf r.holes (startS r.holes)));rw [zDy];exact this
theorem AtW.ok {r:RuleM} {l:List Prt} {g bm:Nat} {vf vl vfe ve vk vb:Value} {X:List (Nat×Hl)} {B0:Nat} {w0 W8 W:World} (h:AtW g bm r.holes r.holes r.holes vf vl vfe ve vk vb X B0 w0 W8 W) (hr:ruleZ r=0) (hs:SmallR r) (hl:zV l=true) (sl:SmallL l) (c:Nat) :
  SkOK (atE r l g bm vf vl vfe ve vk vb (.slice (some ⟨W.heap.size,0,none⟩) r.holes.length c)):=by
 have hbs:=h.base;refine ⟨(vI hr).1,hl,hs.f.1,sl.1,hs.h.1,fun x hx=>⟨(hs.h.2 x hx).2,(hs.h.2 x hx).1⟩,hs.f,sl,?_,fun e=>?_,fun e=>?_⟩
 ·cases e:vb.ownBlock with
  | none=>exact Or.inl e
  | some q =>
   refine Or.inr fun e2=>?_;have h1:=(h.b.lt q e).2;have e3:some q=some W.heap.size:=by rw [← e];exact e2
   have:=Option.some.inj e3;omega
 ·have:=(h.b.lt g e.symm).1;omega
 ·have e3:some g=some W.heap.size:=e;have:=Option.some.inj e3;omega
@[irreducible] def atPost (r:RuleM) (o:Option MSt) (w0:World) (e:Ending) (w':World):Prop :=
 Below w0.heap.size w0 w'∧match o with
  | some τ=>∃ vb,e=.returned (.tuple #[vb,.bool true])∧w'.ownsRow w0.heap.size 46 3 vb r.holes.length (bindsV (bindsOf r.holes τ))
  | none=>e=.returned (.tuple #[.slice none 0 0,.bool false])
theorem KeptX.toBelow {E:SkE} {w w':World} {B:Nat} (h:KeptX E w w') (hB:B≤w.heap.size) (h1:∀ q,E.vb.ownBlock=some q→B≤q) (h2:∀ q,E.vz.ownBlock=some q→B≤q):Below B w w' :=
 ⟨h.os,h.tape,h.output,h.size,fun k hk=>h.block k (by omega) (fun e=>by have:=h1 k e.symm;omega) (fun e=>by have:=h2 k e.symm;omega)⟩
end Go.Proofs.YtbjkdmbcpkopjaaGreatDoor
