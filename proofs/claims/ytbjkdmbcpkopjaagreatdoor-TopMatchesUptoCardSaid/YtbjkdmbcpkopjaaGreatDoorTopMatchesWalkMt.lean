/- The statement TopMatches, walked: the call returns true. -/
import Derived.Test.YtbjkdmbcpkopjaaGreatDoorCoreMt
import Derived.Test.YtbjkdmbcpkopjaaGreatDoorTopFMt
import Derived.Test.YtbjkdmbcpkopjaaGreatDoorRefMBMt
import Derived.Test.YtbjkdmbcpkopjaaGreatDoorTerm2Mt
import Derived.Test.YtbjkdmbcpkopjaaGreatDoorRuleVMt
import Derived.Test.YtbjkdmbcpkopjaaGreatDoorRefMAMt
import Derived.Test.YtbjkdmbcpkopjaaGreatDoorTermMt
import Derived.Test.YtbjkdmbcpkopjaaGreatDoorUntilMt
import Derived.BigQuiet
import Derived.Deep.QuietTactic
namespace Go.Proofs.YtbjkdmbcpkopjaaGreatDoor
set_option maxRecDepth 100000
set_option maxHeartbeats 32000000
set_option linter.all false
attribute [local irreducible] Calls
attribute [local irreducible] wpStill
open Go.RowKit

theorem zTn {rules:List RuleM} {l:List Prt} {i n:Nat} {m:Mch} (h:m∈oneM rules l i n):m.1=n∧m.2.1=i:=by
 unfold oneM at h;split at h
 ·split at h
  ·rw [List.mem_singleton] at h;subst h;exact ⟨rfl,rfl⟩
  ·cases h
 ·cases h
theorem yAm {rules:List RuleM} {l:List Prt} {i n:Nat} (hi:i<l.length) (hn:n<rules.length) (h:oneM rules l i n=[]) {m:Mch} (hm:(allM rules l)[(accM rules l i n).length]?=some m):¬ (m.1=n∧m.2.1=i):=by
 obtain ⟨c,hc⟩:∃ c,l.length=(i+1)+c:=⟨l.length-(i+1),by omega⟩;obtain ⟨d,hd⟩:∃ d,rules.length=(n+1)+d:=⟨rules.length-(n+1),by omega⟩;have h1:allM rules l=accM rules l (i+1) 0++((List.range c).map (i+1+·)).flatMap (atM rules l):=by
  unfold allM accM;rw [hc,List.range_add,List.flatMap_append];simp
 have h2:accM rules l (i+1) 0=accM rules l i n++((List.range d).map (n+1+·)).flatMap (oneM rules l i):=by
  rw [zAv,hd];unfold accM;rw [List.range_add,List.range_succ,List.flatMap_append,List.flatMap_append];simp [h]
 rw [h1,h2,List.append_assoc,List.getElem?_append_right (nR _),Nat.sub_self] at hm;have hmem:=List.mem_of_getElem? hm;rintro ⟨e1,e2⟩;rcases List.mem_append.1 hmem with hq | hq
 ·obtain ⟨x,hx,hq⟩:=List.mem_flatMap.1 hq;obtain ⟨y,-,rfl⟩:=List.mem_map.1 hx;have:=(zTn hq).1;omega
 ·obtain ⟨x,hx,hq⟩:=List.mem_flatMap.1 hq;obtain ⟨y,-,rfl⟩:=List.mem_map.1 hx;unfold atM at hq;obtain ⟨z,-,hq⟩:=List.mem_flatMap.1 hq;have:=(zTn hq).2;omega
def tmOut (rules:List RuleM) (l:List Prt) (w0:World) (kv iv:Value) (wr:World):Prop:=∃ i:Nat,iv=.int .i64 (i:Int)∧kv=.int .i64 ((accM rules l i 0).length:Int)∧i≤l.length∧Below w0.heap.size w0 wr
def tmIn (rules:List RuleM) (l:List Prt) (i:Nat) (w0:World) (kv nv:Value) (wr:World):Prop:=∃ n:Nat,nv=.int .i64 (n:Int)∧kv=.int .i64 ((accM rules l i n).length:Int)∧n≤rules.length∧Below w0.heap.size w0 wr
def tmHo (n:Nat) (w5:World) (hv:Value) (wr:World):Prop:=∃ h:Nat,hv=.int .i64 (h:Int)∧h≤n∧Below w5.heap.size w5 wr
theorem TopMatches_walk (w:World) (u:Nat) (hu:u<256) (s:ByteArray) (hs0:s.size≤1048576) (vr:Value) (rs:List RuleX) (hr:xM w vr rs) (hsm:∀ x∈rs,SmallR x.1) (hn:rs.length≤1048576) (hH:HeldM w) :
  Calls Tryz.prog 3 #[.int .u8 (u:Int),.string s,vr] w (AnswersM w):=by
 have hs:s.size≤2147483647:=by omega
 have HQ:Hid (∀ w',Below w.heap.size w w'→AnswersM w (.returned (.bool true)) w'):=Hd fun w' h=>AnswersM.mk h;generalize AnswersM w=Q at *;have CF:=Hd (fun w' (hb:Below w.heap.size w w')=>zWq w' (hH.T.below hb) (hH.M.below hb));have CH:=Hd (zWp s hs rs hsm hn vr w hr);have CT:=Hd (fun w' (hb:Below w.heap.size w w')=>zOi s hs (1+u % 4) ⟨by omega,by omega⟩ w' (hH.T.below hb) (hH.M.below hb));obtain ⟨ar,cr,rfl,hcr⟩:=hr.shape;have HR:=Hd hr;have HS:=Hd hsm;have HH:=Hd hH;clear hr hsm hH;go_enter Tryz.func3,Tryz.ntmps3;go_wp2_with fail;refine CH.out.mono ?_;intro e w1 h1;obtain ⟨y,rfl,hb1⟩:=h1.out;have HB1:=Hd hb1;clear h1 hb1 CH;cases y with
 | true =>
  go_wp2_with fail;refine (CF.out w1 HB1.out).mono ?_;rintro e wZ ⟨rfl,hbZ⟩;have HX:=Hd (HQ.out wZ (zC HB1.out hbZ));clear hbZ;go_wp2_with fail;exact HX.out
 | false =>
 go_wp2_with fail;refine (yAk u hu w1).mono ?_;rintro e w1' ⟨rfl,rfl⟩;go_wp2_with fail;refine (CT.out w1 HB1.out).mono ?_;intro e w2 h2;unfold TermQ at h2;obtain ⟨hb2,vl,l,f,a,rfl,hlr,hl,-⟩:=h2;have HBA:=Hd (zC HB1.out hb2);have hl:SmallL l:=⟨by omega,fun p hp=>by have:=hl.2 p hp;exact ⟨this.1,by omega⟩⟩;obtain ⟨al,cl,rfl,hcl⟩:=hlr.slice;have HBF:=Hd ((bR w2.heap.size w2).alloc (nR _) (.cells #[.int .i64 f,.int .i64 a] 28));clear hb2 CT HB1;go_wp2_with fail;refine (zPp f a _).mono ?_;rintro e w3 ⟨rfl,hb3⟩;have HB3:=Hd (zC HBF.out hb3);have HLR:=Hd (hlr.below HB3.out);have HR3:=Hd (HR.out.below (zC HBA.out HB3.out));have HW:=Hd (zC HBA.out HB3.out);clear hb3 HBF hlr HBA HB3 HR;cases hff:(f == 0&&a == 0) with
 | false =>
  go_wp2_with fail;refine (CF.out w3 HW.out).mono ?_;rintro e wZ ⟨rfl,hbZ⟩;have HX:=Hd (HQ.out wZ (zC HW.out hbZ));clear hbZ;go_wp2_with fail;exact HX.out
 | true =>
 have HL:=Hd hl;have hll:=hl.1;have CW:=Hd (yAl rs HS.out hn _ l hl.1 _ w3 HR3.out HLR.out);clear hff hl;go_wp2_with fail;refine CW.out.mono ?_;intro e w4 h4;obtain ⟨y,rfl,hb4⟩:=h4.out;have HR4:=Hd (HR3.out.below hb4);have HL4:=Hd (HLR.out.below hb4);have HW4:=Hd (zC HW.out hb4);clear h4 hb4 CW HR3 HLR HW;cases y with
 | true =>
  go_wp2_with fail;refine (CF.out w4 HW4.out).mono ?_;rintro e wZ ⟨rfl,hbZ⟩;have HX:=Hd (HQ.out wZ (zC HW4.out hbZ));clear hbZ;go_wp2_with fail;exact HX.out
 | false =>
 have CA:=Hd (zXg rs HS.out l HL.out _ _ w4 (HH.out.T.below HW4.out) (HH.out.M.below HW4.out) HR4.out HL4.out);go_wp2_with fail;refine CA.out.mono ?_;rintro e w5 ⟨va,vc,xs,rfl,hvc,hxs,hms,hb5,_,_⟩;have HMS:=Hd hms;have HR5:=Hd (HR4.out.below hb5);have HL5:=Hd (HL4.out.below hb5);have HW5:=Hd (zC HW4.out hb5);clear hb5 hms CA HR4 HL4 HW4;by_cases hz:yR (rs.map (·.1)) l=0
 case neg =>
  rw [iN hz] at hxs;obtain rfl:xs=[]:=by cases xs with
   | nil=>rfl
   | cons x t=>simp at hxs
  have g1:(yR (rs.map (·.1)) l != 0)=true:=by rw [bne_iff_ne];exact hz
  clear hz hxs;generalize yR (rs.map (·.1)) l=z at *;go_wp2_with fail;refine (CF.out w5 HW5.out).mono ?_;rintro e wZ ⟨rfl,hbZ⟩;have HX:=Hd (HQ.out wZ (zC HW5.out hbZ));clear hbZ;go_wp2_with fail;exact HX.out
 rw [iP hz] at hxs;obtain ⟨hwl,h32,hrz⟩:=zCd.1 hz;rw [List.length_map] at h32;have HXS:=Hd hxs;have HWL:=Hd hwl;have HRZ:=Hd hrz;rw [hz];clear hz hxs hwl hrz;have HXL:Hid (xs.length=(allM (rs.map (·.1)) l).length):=Hd (by rw [← HXS.out,List.length_map]);have hlen:xs.length≤1048576*32:=by
  have h1:=zMz (rs.map (·.1)) l l.length 0;rw [zFy,List.length_map] at h1;have h2:l.length*rs.length≤1048576*32:=Nat.mul_le_mul hll h32;have:=HXL.out;omega
 have CC:=Hd (zRs l (by omega) _ w5 HL5.out);rw [HWL.out] at CC;go_wp2_with fail;refine CC.out.mono ?_;rintro e w5' ⟨rfl,rfl⟩;clear CC;go_wp2_with fail;go_loopw [11,12] (fun kv iv wr=>tmOut (rs.map (·.1)) l w5 kv iv wr) (fun _ iv _=>l.length-(intOf iv).toNat)
 case atStart=>exact ⟨0,rfl,rfl,Nat.zero_le _,bR _ _⟩
 case round =>
  obtain ⟨i,rfl,rfl,hi,hb⟩:=hrel;have HB:=Hd hb;clear hb;by_cases hlt:i<l.length
  ·have hil:(i:Int)<l.length:=by omega
   have hg:=zP (zJ HWL.out) hlt;have hpl:(piece l i (zB l i)).length=zB l i-i:=vW (by omega) hg.2;obtain ⟨sp,sc,hsl,hpr⟩:=kD w5 _ l HL5.out i (zB l i) (by omega) hg.2;have HPR:=Hd hpr;have HPL:=Hd hpl;have CE:=Hd (zBe l (by omega) _ i (by omega) wr (HL5.out.below HB.out));rw [zIh (zJ HWL.out) hlt] at CE;simp only [endI] at CE;have hez:(i:Int)≤(zB l i:Int):=by omega
   have hel:(zB l i:Int)≤l.length:=by omega
   have hj0:(0:Int)≤(i:Int):=by omega
   clear hpr hpl hg;generalize hzz:zB l i=zz at *;have HZZ:=Hd hzz;clear hzz;go_wp2_with fail;refine CE.out.mono ?_;rintro e wr' ⟨rfl,rfl⟩;clear CE;go_wp2_with fail;go_loopw [11,14] (fun kv nv wr=>tmIn (rs.map (·.1)) l i w5 kv nv wr) (fun _ nv _=>rs.length-(intOf nv).toNat)
   case atStart=>exact ⟨0,rfl,rfl,Nat.zero_le _,HB.out⟩
   case round =>
    obtain ⟨n,rfl,rfl,hnl,hb⟩:=hrel;have HBN:=Hd hb;clear hb;rw [List.length_map] at hnl;by_cases hlt2:n<rs.length
    ·obtain ⟨rb,ro,rfl,_,_,hrl,hcell⟩:=HR5.out.at HBN.out (show 0<rs.length by omega);obtain ⟨d0,d1,d2,d3,d4⟩:=hcell n hlt2;have hin:=HR5.out.E _ (gM hlt2);have hsm:=HS.out _ (gM hlt2);have hrz:=HRZ.out (rs[n]).1 (List.mem_map.2 ⟨_,gM hlt2,rfl⟩);have hrn:(rs.map (·.1))[n]?=some (rs[n]).1:=by rw [List.getElem?_map,gE hlt2];rfl
     generalize rs[n]=x at *;obtain ⟨r,vh,vf,vb⟩:=x;simp only [] at d0 d1 d2 d3 d4 hin hsm hrn hrz;obtain ⟨ah,ch,rfl,hch⟩:=Row.shape hin.H;obtain ⟨af,cf,rfl,hcf⟩:=hin.F.slice;obtain ⟨ab,cb,rfl,hcb⟩:=hin.B.slice;have hst:=gT (rs.map (·.1)) l i n;rw [zKp hrn] at hst;have HIN:=Hd hin;have HSM:=Hd hsm;have HRZ0:=Hd hrz;have HST:=Hd hst;have HACC:Hid (∀ τ,atZ r l i=some τ→(allM (rs.map (·.1)) l)[(accM (rs.map (·.1)) l i n).length]?=some (n,i,bindsOf r.holes τ)):=Hd (fun τ ht=>yCo hlt (by rw [List.length_map];exact hlt2) (by rw [zKp hrn,ht]));have HRST:Hid (atZ r l i=none→∀ {m:Mch},(allM (rs.map (·.1)) l)[(accM (rs.map (·.1)) l i n).length]?=some m→¬ (m.1=n∧m.2.1=i)):=Hd (fun ht=>yAm hlt (by rw [List.length_map];exact hlt2) (by rw [zKp hrn,ht]));have HRK:Hid (RK (wr.alloc (.cells #[.string r.nm,.int .u8 (r.goal:Int),.slice ah r.holes.length ch,.slice af r.fnd.length cf,.slice ab r.by'.length cb] 41)) wr.heap.size r.nm r.goal (.slice ah r.holes.length ch) (.slice af r.fnd.length cf) (.slice ab r.by'.length cb)):=Hd (heap_alloc_new _ _);have HB1:Hid (Below w5.heap.size w5 (wr.alloc (.cells #[.string r.nm,.int .u8 (r.goal:Int),.slice ah r.holes.length ch,.slice af r.fnd.length cf,.slice ab r.by'.length cb] 41))):=Hd (HBN.out.alloc HBN.out.size _);have hn0:(0:Int)≤(n:Int):=by omega
     have hnr:(n:Int)<rs.length:=by omega
     have hnc:(n:Int)<cr:=by omega
     have hhl:=hsm.h.1;clear hcell hin hsm hrn hst hrz;go_upto_region 20 with (fail);clear d0 d1 d2 d3 d4;generalize wr.alloc (.cells #[.string r.nm,.int .u8 (r.goal:Int),.slice ah r.holes.length ch,.slice af r.fnd.length cf,.slice ab r.by'.length cb] 41)=W1 at *;generalize wr.heap.size=rk at *;cases ho:atZ r l (i:Int) with
     | none =>
      have HNX:Hid (∀ W,Below w5.heap.size w5 W→tmIn (rs.map (·.1)) l i w5 (.int .i64 ((accM (rs.map (·.1)) l i n).length:Int)) (.int .i64 ((n:Int)+1)) W):=Hd fun W hb =>
       ⟨n+1,by push_cast;rfl,by rw [HST.out,ho,List.append_nil],by rw [List.length_map];exact hlt2,hb⟩
      have HNE:Hid (r.holes.length=0→r.fnd≠piece l i zz):=Hd fun h0 e=>by
       obtain ⟨τ,ht⟩:=(zVu HRZ0.out (List.eq_nil_of_length_eq_zero h0) HWL.out hlt).2 (by rw [HZZ.out];exact e);rw [ht] at ho;cases ho
      have HR0:Hid (∀ (h:(accM (rs.map (·.1)) l i n).length<xs.length),¬ ((xs[(accM (rs.map (·.1)) l i n).length]).1.1=n∧(xs[(accM (rs.map (·.1)) l i n).length]).1.2.1=i)):=Hd fun h=>HRST.out ho (by rw [← HXS.out,List.getElem?_map,gE h];rfl)
      clear ho HST HACC HRST HRZ0;generalize (accM (rs.map (·.1)) l i n).length=kk at *;go_cut [100] from 79 to 100 (fun v W=>v=.bool false∧W=W1)
      case first =>
       by_cases hkl:kk<xs.length
       ·obtain ⟨b,off,rfl,_,_,hcm⟩:=HMS.out.at HB1.out (show 0<xs.length by omega);obtain ⟨c0,c1,c2⟩:=hcm kk hkl;have hne:=HR0.out hkl;have hk0:(0:Int)≤(kk:Int):=by omega
        have hkx:(kk:Int)<xs.length:=by omega
        have hkc:(kk:Int)<vc:=by omega
        clear hcm HR0;generalize (xs[kk]).1.1=m1 at *;generalize (xs[kk]).1.2.1=m2 at *;by_cases h2:m2=i
        ·subst h2;have h1:((m1:Int) == (n:Int))=false:=by rw [bE];intro e;exact hne ⟨by omega,rfl⟩
         have h1':(m1 == n)=false:=by rw [bE];intro e;exact hne ⟨e,rfl⟩
         clear hne;go_wp2_with fail;go_meet
         case rel=>exact ⟨rfl,rfl⟩
        ·have h1:((m2:Int) == (i:Int))=false:=by rw [bE];omega
         have h1':(m2 == i)=false:=by rw [bE];omega
         clear hne;go_wp2_with fail;go_meet
         case rel=>exact ⟨rfl,rfl⟩
       ·have hkx:¬ (kk:Int)<xs.length:=by omega
        go_wp2_with fail;go_meet
        case rel=>exact ⟨rfl,rfl⟩
      obtain ⟨rfl,rfl⟩:=hcut;clear HR0;obtain ⟨e0,e1,e2,e3,e4⟩:=HRK.out.cells;by_cases hh0:r.holes.length=0
      ·have CS:=Hd (zIi _ _ r.fnd (piece l i zz) (by have:=HSM.out.f.1;omega) (by have:=HPL.out;omega) wc (HIN.out.F.below HB1.out) (HPR.out.below HB1.out));have hne:=HNE.out hh0;go_wp2_with fail;refine CS.out.mono ?_;rintro e w6 ⟨x,rfl,ht,hb6⟩;have hxf:x=false:=by
        cases x with
        | false=>rfl
        | true=>exact absurd (ht.1 rfl) hne
       subst hxf;have HX:=Hd (HNX.out _ (zC HB1.out hb6));clear ht hb6 CS hne e0 e1 e2 e3 e4;go_wp2_with fail;exact ⟨HX.out,by simp only [intOf];omega⟩
      ·have hh1:¬ (r.holes.length:Int)=0:=by omega
       have hh2:((r.holes.length:Int) == 0)=false:=by rw [bE];omega
       have HX:=Hd (HNX.out _ HB1.out);go_wp2_with fail;exact ⟨HX.out,by simp only [intOf];omega⟩
     | some τ =>
      have hat:=HACC.out τ ho;have hkl:(accM (rs.map (·.1)) l i n).length<xs.length:=by
       have:=(List.getElem?_eq_some_iff.1 hat).1;rw [HXL.out];exact this
      have hxk:(xs[(accM (rs.map (·.1)) l i n).length]).1=(n,i,bindsOf r.holes τ):=by
       rw [← HXS.out,List.getElem?_map,gE hkl] at hat;exact Option.some.inj hat
      have HNX:Hid (∀ W,Below w5.heap.size w5 W→tmIn (rs.map (·.1)) l i w5 (.int .i64 (((accM (rs.map (·.1)) l i n).length:Int)+1)) (.int .i64 ((n:Int)+1)) W):=Hd fun W hb =>
       ⟨n+1,by push_cast;rfl,by rw [HST.out,ho,lA];push_cast;rfl,by rw [List.length_map];exact hlt2,hb⟩
      have hbl:=(zEw ho hll).1;have hfi:=zQn ho;rw [show ((i:Int)).toNat=i by omega,HZZ.out] at hfi;have HFI:=Hd hfi;have HFH:=Hd (fun k (hk:k<r.holes.length)=>zQm ho hk);clear ho hat HST HACC HRST hfi;generalize (accM (rs.map (·.1)) l i n).length=kk at *;generalize bindsOf r.holes τ=B at *;have hmE:=HMS.out.E _ (gM hkl);obtain ⟨mb,mo,rfl,_,_,hcm0⟩:=HMS.out.at HB1.out (show 0<xs.length by omega);clear hcm0;have HCM:Hid (∀ W,Below w5.heap.size w5 W→W.cell? ⟨mb,mo+kk*3,none⟩=some (.int .i64 ((xs[kk]).1.1:Int))∧W.cell? ⟨mb,mo+kk*3+1,none⟩=some (.int .i64 ((xs[kk]).1.2.1:Int))∧W.cell? ⟨mb,mo+kk*3+2,none⟩=some (xs[kk]).2):=Hd fun W hb=>by
       obtain ⟨b2,o2,e',_,_,hcc⟩:=HMS.out.at hb (show 0<xs.length by omega);simp only [Option.some.injEq,Addr.mk.injEq,and_true] at e';obtain ⟨rfl,rfl⟩:=e';exact hcc kk hkl
      have hkx:(kk:Int)<xs.length:=by omega
      generalize xs[kk]=y at *;obtain ⟨ym,yv⟩:=y;simp only [] at hxk hmE HCM;subst hxk;simp only [] at hmE HCM;obtain ⟨ya,yc,rfl,hyc⟩:=Row.shape hmE;have HBL:=Hd hbl;have HBW:=Hd hmE;rw [hbl] at HCM hyc;clear hbl hmE;obtain ⟨c0,c1,c2⟩:=HCM.out W1 HB1.out;obtain ⟨e0,e1,e2,e3,e4⟩:=HRK.out.cells;have hk0:(0:Int)≤(kk:Int):=by omega
      have hkc:(kk:Int)<vc:=by omega
      have hwk:IntKind.i64.wrap ((kk:Int)+1)=(kk:Int)+1:=wi64 _ (by omega);go_upto_region 21 with (fail);go_quiet (fail);have HBQ:=Hd (drewB (bR W1.heap.size W1) nq);clear c0 c1 c2 e0 e1 e2 e3 e4;generalize W1.drewN nq=wq at *;have HRQ:=Hd (HRK.out.below HBQ.out);have HB2:=Hd (zC HB1.out HBQ.out);clear HBQ HRK;go_wp2_with fail;go_loopw [16] (fun hv wr=>tmHo r.holes.length wq hv wr) (fun hv _=>r.holes.length-(intOf hv).toNat)
      case atStart=>exact ⟨0,rfl,Nat.zero_le _,bR _ _⟩
      case round =>
       obtain ⟨h,rfl,hh,hb⟩:=hrel;have HBR:=Hd hb;clear hb;obtain ⟨e0,e1,e2,e3,e4⟩:=(HRQ.out.below HBR.out).cells;obtain ⟨c0,c1,c2⟩:=HCM.out wr (zC HB2.out HBR.out);by_cases hlt:h<r.holes.length
       ·obtain ⟨q1,q2,nn,⟨hb',eb⟩,g1,g2,g3,g4,g5⟩:=HFH.out h hlt;rw [HZZ.out] at g3;obtain ⟨bb,bo,rfl,y1,y2,y3,y4⟩:=HBW.out.at (zC HB2.out HBR.out) (show 0<B.length by omega);clear y1 y2 y3 y4;have HCB:Hid (∀ W,Below w5.heap.size w5 W→W.cell? ⟨bb,bo+h*3,none⟩=some (.string (r.holes[h]).1)∧W.cell? ⟨bb,bo+h*3+1,none⟩=some (.int .i64 (q1:Int))∧W.cell? ⟨bb,bo+h*3+2,none⟩=some (.int .i64 (q2:Int))):=Hd fun W hb=>by
         obtain ⟨b2,o2,e',_,_,_,hcc⟩:=HBW.out.at hb (show 0<B.length by omega);simp only [Option.some.injEq,Addr.mk.injEq,and_true] at e';obtain ⟨rfl,rfl⟩:=e';have:=hcc h hb';rw [eb] at this;exact this
        obtain ⟨kb,ko,rfl,y1,y2,y3,y4⟩:=HIN.out.H.at (zC HB2.out HBR.out) (show 0<r.holes.length by omega);clear y1 y2 y3 y4;have HCH:Hid (∀ W,Below w5.heap.size w5 W→W.cell? ⟨kb,ko+h*2,none⟩=some (.string (r.holes[h]).1)∧W.cell? ⟨kb,ko+h*2+1,none⟩=some (.int .u8 ((r.holes[h]).2:Int))):=Hd fun W hb=>by
         obtain ⟨b2,o2,e',_,_,_,hcc⟩:=HIN.out.H.at hb (show 0<r.holes.length by omega);simp only [Option.some.injEq,Addr.mk.injEq,and_true] at e';obtain ⟨rfl,rfl⟩:=e';exact hcc h hlt
        obtain ⟨lb,lo,rfl,y1,y2,y3,y4⟩:=HL5.out.at (zC HB2.out HBR.out) (show 0<l.length by omega);clear y1 y2 y3 y4;have hhk:=(kC hlt ((kO HRZ0.out).2.2.2.2.2.2.2 h hlt)).2.2.1;obtain ⟨p2,cc2,hs2,hr2⟩:=kD w5 _ l HL5.out q1 q2 g2 (by omega);have hpl2:(piece l q1 q2).length≤1048576:=by unfold piece;rw [List.length_take,List.length_drop];omega
        have CT:=Hd (fun W (hb:Below w5.heap.size w5 W)=>zEp (piece l q1 q2) (by omega) _ W (hr2.below hb));rw [g4] at CT;have hq12:isSev (r.holes[h]).2=false→q1<q2:=fun hs=>by
         rcases Nat.lt_or_ge q1 q2 with h' | h'
         ·exact h'
         ·have e:q1=q2:=by omega
          rw [e,fL,(g5 hs).1] at g4;cases g4
        obtain ⟨b0,b1,b2⟩:=HCB.out wr (zC HB2.out HBR.out);have HG5:=Hd g5;have HQ12:=Hd hq12;have HKK:=Hd hhk;have hh0:(0:Int)≤(h:Int):=by omega
        have hhl':(h:Int)<r.holes.length:=by omega
        have hhb:(h:Int)<(yc:Int):=by omega
        have hhc:(h:Int)<(ch:Int):=by omega
        have f1:¬ (q1:Int)<0:=by omega
        have f2:¬ (q2:Int)<(q1:Int):=by omega
        have f3:¬ (l.length:Int)<(q2:Int):=by omega
        have f4:(q1:Int)≤(q2:Int):=by omega
        have f5:(q2:Int)≤l.length:=by omega
        have f6:(0:Int)≤(q1:Int):=by omega
        have hwh:IntKind.i64.wrap ((h:Int)+1)=(h:Int)+1:=wI (by omega);have HX:Hid (∀ W,Below wq.heap.size wq W→tmHo r.holes.length wq (.int .i64 ((h:Int)+1)) W):=Hd fun W hb=>⟨h+1,by push_cast;rfl,hlt,hb⟩
        have HMS2:Hid (r.holes.length-(h+1)<r.holes.length-h):=Hd (by omega);clear g1 g2 g3 g4 g5 hb' eb hr2 hpl2 hhk hq12;generalize (r.holes[h]).1=kn at *;generalize (r.holes[h]).2=kk2 at *;clear hlt;have HBX0:Hid ((wr.alloc (.cells #[.string kn,.int .i64 (q1:Int),.int .i64 (q2:Int)] 46)).heap[wr.heap.size]?=some (.cells #[.string kn,.int .i64 (q1:Int),.int .i64 (q2:Int)] 46 (0,0))):=Hd (heap_alloc_new _ _);have HBB0:Hid (Below wq.heap.size wq (wr.alloc (.cells #[.string kn,.int .i64 (q1:Int),.int .i64 (q2:Int)] 46))):=Hd (HBR.out.alloc HBR.out.size _);go_upto_region 27 with (fail);clear e0 e1 e2 e3 e4 c0 c1 c2 b0 b1 b2;generalize wr.alloc (.cells #[.string kn,.int .i64 (q1:Int),.int .i64 (q2:Int)] 46)=wb at *;generalize wr.heap.size=bx at *;have HBX:Hid (∀ W,Below wb.heap.size wb W→W.cell? ⟨bx,0,none⟩=some (.string kn)∧W.cell? ⟨bx,1,none⟩=some (.int .i64 (q1:Int))∧W.cell? ⟨bx,2,none⟩=some (.int .i64 (q2:Int))):=Hd fun W hb=>by
         have:=keeps hb HBX0.out;simp [World.cell?,this]
        obtain ⟨b0,b1,b2⟩:=HBX.out wb (bR _ _);have CT1:=Hd (CT.out wb (zC HB2.out HBB0.out));clear HBX0 HBR;go_wp2_with fail;refine CT1.out.mono ?_;rintro e w9 ⟨rfl,rfl⟩;have hnn:¬ (nn:Int)<0:=by omega
        clear CT1 CT hs2 b0 b1 b2;go_upto_region 29 with (fail);have HBD:=Hd ((bR wb.heap.size wb).drew);have CSV:=Hd (fun W=>zEq kn kk2 W);have HE2:Hid (∀ W,Below wb.heap.size wb W→W.cell? ⟨rk,2,none⟩=some (.slice (some ⟨kb,ko,none⟩) r.holes.length ch)):=Hd fun W hb=>((HRQ.out.below HBB0.out).below hb).cells.2.2.1
        cases hsev:isSev kk2 with
        | true =>
         rw [hsev] at CSV;clear hsev HG5 HQ12;have HS1:Hid (∀ W,Below wb.heap.size wb W→W.cell? ⟨rk,2,none⟩=some (.slice (some ⟨kb,ko,none⟩) r.holes.length ch)∧W.cell? ⟨kb,ko+h*2,none⟩=some (.string kn)∧W.cell? ⟨kb,ko+h*2+1,none⟩=some (.int .u8 (kk2:Int))):=Hd fun W hb=>⟨HE2.out W hb,HCH.out W (zC HB2.out (zC HBB0.out hb))⟩
         refine wp_region_noPanic ?_;refine wp_region_held_drew (S:=fun W=>W.cell? ⟨rk,2,none⟩=some (.slice (some ⟨kb,ko,none⟩) r.holes.length ch)∧W.cell? ⟨kb,ko+h*2,none⟩=some (.string kn)∧W.cell? ⟨kb,ko+h*2+1,none⟩=some (.int .u8 (kk2:Int))) (by kernel_rfl) (HS1.out _ HBD.out) (fun hHa=>?_);refine tH 0 153 hHa ?_;refine tH 1 154 hHa ?_;refine tH 2 155 hHa ?_;refine tH 3 156 hHa ?_;refine tH 4 157 hHa ?_;refine rH 5 _ fun K hK=>?_;go_simp
         go_at_call 14
         refine (CSV.out _).mono ?_;rintro e w10 ⟨rfl,hb10⟩;(try dsimp only)
         refine hK.out _ _ (HS1.out _ (zC HBD.out hb10)) (fun hHb=>?_);clear hK K hHa;(try simp only [qA,qL,qZ,qS])
         refine tH 6 159 hHb ?_;refine tH 7 160 hHb ?_;refine sH 8 161 hHb ?_;refine sH 9 162 hHb ?_;refine sH 10 163 hHb ?_;refine sH 11 164 hHb ?_;refine sH 12 165 hHb ?_;refine sH 13 166 hHb ?_;refine sH 14 167 hHb ?_;refine sH 15 168 hHb ?_;refine sH 16 169 hHb ?_;refine sH 17 170 hHb ?_;refine sH 18 171 hHb ?_;refine sH 19 172 hHb ?_;refine sH 20 173 hHb ?_;refine sH 21 174 hHb ?_;refine sH 22 175 hHb ?_;refine sH 23 176 hHb ?_;refine sH 24 177 hHb ?_;refine sH 25 178 hHb ?_;refine rH 26 _ fun K hK=>?_;rw [iN]
         rotate_left
         ·exact fun h=>Bool.noConfusion (h.symm.trans (by kernel_rfl:_=false))
         refine hK.out _ _ hHb (fun hHc=>?_);clear hK K hHb;(try simp only [qA,qL,qZ,qS])
         refine sH 27 180 hHc ?_;refine sH 28 181 hHc ?_;refine tH 29 182 hHc ?_;refine wpAnyH_done (by kernel_rfl) ?_ _;refine NoPanic.normal ?_;go_wp2_with fail;exact ⟨HX.out _ (zC HBB0.out (zC HBD.out hb10)),by have:=HMS2.out;simp only [intOf];omega⟩
        | false =>
         rw [hsev] at CSV;obtain ⟨rfl,hql,hmay⟩:=HG5.out hsev;have hk:=HKK.out;have hk5:1≤kk2∧kk2≤5:=by unfold isSev at hsev;simp at hsev;omega
         have hka:zT l q1<256∧zT l q1=(l[q1]).1:=by
          have e:zT l q1=(l[q1]).1:=by unfold zT;rw [gE hql]
          exact ⟨by rw [e];exact (HL.out.2 _ (gM hql)).1,e⟩
         have CM:=Hd (fun W=>zVs kk2 (zT l q1) hk5.1 hk5.2 hka.1 W);rw [hmay] at CM;have HS2:Hid (∀ W,Below wb.heap.size wb W→W.cell? ⟨rk,2,none⟩=some (.slice (some ⟨kb,ko,none⟩) r.holes.length ch)∧W.cell? ⟨kb,ko+h*2,none⟩=some (.string kn)∧W.cell? ⟨kb,ko+h*2+1,none⟩=some (.int .u8 (kk2:Int))∧W.cell? ⟨bx,1,none⟩=some (.int .i64 (q1:Int))∧W.cell? ⟨bx,2,none⟩=some (.int .i64 (q2:Int))∧W.cell? ⟨lb,lo+q1*3,none⟩=some (.int .u8 (zT l q1:Int))):=Hd fun W hb=>⟨HE2.out W hb,(HCH.out W (zC HB2.out (zC HBB0.out hb))).1,(HCH.out W (zC HB2.out (zC HBB0.out hb))).2,(HBX.out W hb).2.1,(HBX.out W hb).2.2,by
          obtain ⟨b2,o2,e',_,_,_,hcc⟩:=HL5.out.at (zC HB2.out (zC HBB0.out hb)) (show 0<l.length by omega);simp only [Option.some.injEq,Addr.mk.injEq,and_true] at e';obtain ⟨rfl,rfl⟩:=e';rw [hka.2];exact (hcc q1 hql).1⟩
         have hq1l:(q1:Int)<l.length:=by omega
         have hq1c:(q1:Int)<(cl:Int):=by omega
         have hqq:=HQ12.out hsev;have hq1:((q1:Int) == (q2:Int))=false:=by rw [bE];omega
         have hq2:(q1 == q2)=false:=by rw [bE];omega
         clear hsev hmay hk hk5 hka hql HG5 hqq HQ12;generalize zT l q1=ka at *
         go_region_held3 (fun W=>W.cell? ⟨rk,2,none⟩=some (.slice (some ⟨kb,ko,none⟩) r.holes.length ch)∧W.cell? ⟨kb,ko+h*2,none⟩=some (.string kn)∧W.cell? ⟨kb,ko+h*2+1,none⟩=some (.int .u8 (kk2:Int))∧W.cell? ⟨bx,1,none⟩=some (.int .i64 (q1:Int))∧W.cell? ⟨bx,2,none⟩=some (.int .i64 (q2:Int))∧W.cell? ⟨lb,lo+q1*3,none⟩=some (.int .u8 (ka:Int))) (first | exact HS2.out _ HBD.out | exact HS2.out _ (zC HBD.out hb10)) (first | (go_at_call 14;(with_reducible refine (CSV.out _).mono ?_);(rintro e w10 ⟨rfl,hb10⟩);(try dsimp only)) | (go_at_call 15;(with_reducible refine (CM.out _).mono ?_);(rintro e w11 ⟨rfl,rfl⟩);(try dsimp only)))
         all_goals
          go_wp2_with fail;exact ⟨HX.out _ (zC HBB0.out (zC HBD.out hb10)),by have:=HMS2.out;simp only [intOf];omega⟩
       ·obtain rfl:h=r.holes.length:=by omega
        have hH:=vI HRZ0.out;have hf0:=xT hH.1.well;have hok:InOK r.fnd l r.holes B:=⟨hH.1,HBL.out,HFI.out.1,HFI.out.2.1,HSM.out.f.1,hll,hhl⟩;have HBV:Hid (BindRow w5 (.slice ya r.holes.length yc) B):=Hd (by have:=HBW.out;rw [HBL.out] at this;exact this);have hml:=congrArg List.length HFI.out.2.2;rw [List.length_map,HPL.out] at hml;have CI:Hid (∀ W,Below w5.heap.size w5 W→Calls Tryz.prog 16 #[.slice af r.fnd.length cf,.slice ah r.holes.length ch,.slice ya r.holes.length yc,.slice al l.length cl,.int .i64 0] W (instPost (mPart r.fnd l r.holes (bOf B) (fuelZ r.fnd) 0) W)):=Hd fun W hb=>zZn hok _ _ _ _ (fuelZ r.fnd) W 0 ⟨HIN.out.F.below hb,HIN.out.H.below hb,HBV.out.below hb,HL5.out.below hb⟩ hf0.1 (by rw [hf0.2];unfold fuelZ;omega) (by omega)
        have HMP:=Hd HFI.out.2.2;have hhn:¬ (r.holes.length:Int)<r.holes.length:=by omega
        have HSS:Hid (∀ X,Below wq.heap.size wq X→X.cell? ⟨rk,3,none⟩=some (.slice af r.fnd.length cf)∧X.cell? ⟨rk,2,none⟩=some (.slice ah r.holes.length ch)∧X.cell? ⟨mb,mo+kk*3+2,none⟩=some (.slice ya r.holes.length yc)):=Hd fun W hb=>⟨(HRQ.out.below hb).cells.2.2.2.1,(HRQ.out.below hb).cells.2.2.1,(HCM.out W (zC HB2.out hb)).2.2⟩
        clear hH hf0 hok hml;generalize mPart r.fnd l r.holes (bOf B) (fuelZ r.fnd) 0=MM at *;go_upto_region 31 with (fail);have HBD:=Hd HBR.out.drew;have hS0:(fun X:World=>X.cell? ⟨rk,3,none⟩=some (.slice af r.fnd.length cf)∧X.cell? ⟨rk,2,none⟩=some (.slice ah r.holes.length ch)∧X.cell? ⟨mb,mo+kk*3+2,none⟩=some (.slice ya r.holes.length yc)) (World.drew wr):=HSS.out _ HBD.out;clear c0 c1 c2 e0 e1 e2 e3 e4;refine zS (S:=fun X=>X.cell? ⟨rk,3,none⟩=some (.slice af r.fnd.length cf)∧X.cell? ⟨rk,2,none⟩=some (.slice ah r.holes.length ch)∧X.cell? ⟨mb,mo+kk*3+2,none⟩=some (.slice ya r.holes.length yc)) [] (by kernel_rfl) ?_;generalize World.drew wr=wd at *;refine tF 0 184 (fun _=>hS0) ?_;refine tU [] 1 185 hS0 ?_;refine tF 2 186 (fun _=>hS0) ?_;refine tU [] 3 187 hS0 ?_;refine tF 4 188 (fun _=>hS0) ?_;refine tF 5 189 (fun _=>hS0) ?_;refine tF 6 190 (fun _=>hS0) ?_;refine tF 7 191 (fun _=>hS0) ?_;refine tU [] 8 192 hS0 ?_;refine tF 9 193 (fun _=>hS0) ?_;refine rU 10 (some 194) fun K hK=>?_;go_simp;refine (CI.out wd (zC HB2.out HBD.out)).mono ?_;intro e w10 h10;unfold instPost at h10;obtain ⟨v1,v2,rfl,hb10,ho1,ho2⟩:=h10;have hr1:zF w10 v1 (piece l i zz):=by
         unfold zF;rw [← HMP.out,List.length_map];exact Row.of_owns ho1
        obtain ⟨a1,c1,rfl,_⟩:=hr1.slice;obtain ⟨a2,c2,rfl,_⟩:=Row.shape (Row.of_owns ho2);have HB10:=Hd (zC HB2.out (zC HBD.out hb10));have hS1:(fun X:World=>X.cell? ⟨rk,3,none⟩=some (.slice af r.fnd.length cf)∧X.cell? ⟨rk,2,none⟩=some (.slice ah r.holes.length ch)∧X.cell? ⟨mb,mo+kk*3+2,none⟩=some (.slice ya r.holes.length yc)) w10:=HSS.out _ (zC HBD.out hb10);have hpl:=HPL.out;have CS:=Hd (zIi _ _ (piece l i zz) (piece l i zz) (by omega) (by omega) w10 hr1 (HPR.out.below HB10.out));clear hb10 ho1 ho2 hr1 CI hS0;(try dsimp only)
        refine hK.out _ _ (fun _=>hS1) ?_;clear hK K;(try simp only [qA,qL,qZ,qS])
        refine tF 11 183 (fun _=>hS1) ?_;refine tF 12 195 (fun _=>hS1) ?_;refine tF 13 196 (fun _=>hS1) ?_;refine tF 14 18 (fun _=>hS1) ?_;refine tF 15 19 (fun _=>hS1) ?_;refine yH (by kernel_rfl) ?_ _;clear hS1;rw [hpl] at CS ⊢;go_wp2_with fail;refine CS.out.mono ?_;rintro e w12 ⟨x,rfl,ht,hb12⟩;obtain rfl:=ht.2 rfl;have HX:=Hd (HNX.out _ (zC HB10.out hb12));clear ht hb12 CS;go_wp2_with fail;exact ⟨HX.out,by simp only [intOf];omega⟩
    ·obtain rfl:n=rs.length:=by omega
     have HX:Hid (tmOut (rs.map (·.1)) l w5 (.int .i64 ((accM (rs.map (·.1)) l i rs.length).length:Int)) (.int .i64 ((i:Int)+1)) wr):=Hd
      ⟨i+1,by push_cast;rfl,by rw [zAv,List.length_map],hlt,HBN.out⟩
     generalize (accM (rs.map (·.1)) l i rs.length).length=kk at *;go_wp2_with fail;exact ⟨HX.out,by simp only [intOf];omega⟩
  ·obtain rfl:i=l.length:=by omega
   have hk:(accM (rs.map (·.1)) l l.length 0).length=xs.length:=by rw [zFy,← HXS.out,List.length_map]
   rw [hk];clear hk;have HBZ:=Hd (zC HW5.out HB.out);go_wp2_with fail;refine (CF.out wr HBZ.out).mono ?_;rintro e wZ ⟨rfl,hbZ⟩;have HX:=Hd (HQ.out wZ (zC HBZ.out hbZ));clear hbZ;go_wp2_with fail;exact HX.out
end Go.Proofs.YtbjkdmbcpkopjaaGreatDoor
