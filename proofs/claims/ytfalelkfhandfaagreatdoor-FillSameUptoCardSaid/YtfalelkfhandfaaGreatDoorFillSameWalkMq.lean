/- The statement FillSame, walked: the call returns true. -/
import Derived.Test.YtfalelkfhandfaaGreatDoorPickPMq
import Derived.Test.YtfalelkfhandfaaGreatDoorTwoRMq
import Derived.Test.YtfalelkfhandfaaGreatDoorMakWMq
import Derived.Test.YtfalelkfhandfaaGreatDoorStepBMq
import Derived.Test.YtfalelkfhandfaaGreatDoorFix20Mq
import Derived.Test.YtfalelkfhandfaaGreatDoorRuleAMq
import Derived.Test.YtfalelkfhandfaaGreatDoorRightWMq
namespace Go.Proofs.YtfalelkfhandfaaGreatDoor
set_option maxRecDepth 100000
set_option maxHeartbeats 32000000
set_option linter.all false
attribute [local irreducible] Calls
open Go.RowKit

theorem zDv {rs:List RuleM} {l:List Prt} {p:Pk} {m:Mch} (hm:m∈allM rs l) (hp:p=pkM m):FoundP rs l p∧∃ r∈rs,p.2.2.length=r.holes.length:=by
 obtain ⟨h1,r,τ,h2,h3,h4⟩:=zDw.1 hm
 subst hp
 refine ⟨⟨by show (0:Int)≤(m.1:Int);omega,r,τ,m.2.1,?_,rfl,h3,h4⟩,r,List.mem_of_getElem? h2,?_⟩
 ·show rs[((m.1:Int)).toNat]?=some r
  rw [Int.toNat_natCast];exact h2
 ·show m.2.2.length=_
  obtain ⟨_,_,_,_,_,hl,_⟩:=jH h3
  rw [h4];unfold bindsOf;rw [List.length_zipWith];omega
def putBackRel (w:World) (rs:List RuleX) (sv iv:Value) (wr:World):Prop:=∃ (n:Nat) (xs:List RuleX),iv=.int .i64 (n:Int)∧n≤rs.length∧SmIn w sv xs wr∧xs.map (·.1)=(rs.take n).map fun x=>sameR x.1
theorem FillSame_walk (w:World) (vr:Value) (rs:List RuleX) (hr:yY w vr rs) (hs:∀ x∈rs,SmallR x.1) (hf:∀ x∈rs,x.1.fnd.length+1≤1048576) (hn:rs.length≤1048576) (vl:Value) (l:List Prt) (hlr:zG w vl l) (hl:SmallL l) (hH:HeldM w) :
  Calls Tryz.prog 4 #[vr,vl] w (AnswersM w):=by
 have HQ:Hid (∀ w',Below w.heap.size w w'→AnswersM w (.returned (.bool true)) w'):=Hd fun w' h=>AnswersM.mk h
 generalize AnswersM w=Q at *
 have HP0:vF w (.slice none 0 0) []:=⟨⟨rfl,none,0,rfl,Nat.le_refl _,fun _=>rfl,fun h=>absurd h (by simp)⟩,fun x hx=>by cases hx⟩
 have CF:=Hd (fun w' (hb:Below w.heap.size w w')=>zKb w' (hH.T.below hb) (hH.M.below hb))
 have CG:=Hd (zCk rs hs hn vr l hl.1 vl [] (by decide) (.slice none 0 0) w hr hlr HP0)
 have CY:=Hd (fun w' (hb:Below w.heap.size w w')=>zNl rs (fun x hx=>(hs x hx).h.1) hn vr l hl.1 vl w' (hr.below hb) (hlr.below hb))
 obtain ⟨ar,cr,rfl,hcr⟩:=hr.shape
 obtain ⟨al,cl,rfl,hcl⟩:=hlr.slice
 have HR:=Hd hr
 have HS:=Hd hs
 have HF:=Hd hf
 have HLR:=Hd hlr
 have HL:=Hd hl
 have HHd:=Hd hH
 have hll:=hl.1
 clear hr hs hf hlr hl hH HP0
 go_enter Tryz.func4,Tryz.ntmps4
 go_wp2_with fail
 refine CG.out.mono ?_
 intro e w1 h1
 unfold AnyBool at h1
 obtain ⟨x1,rfl,hb1⟩:=h1
 have HB1:=Hd hb1
 clear hb1 CG
 cases x1 with
 | true =>
  go_wp2_with fail
  refine (CF.out w1 HB1.out).mono ?_
  rintro e wZ ⟨rfl,hbZ⟩
  have HX:=Hd (HQ.out wZ (zB HB1.out hbZ))
  clear hbZ
  go_wp2_with fail
  exact HX.out
 | false =>
 by_cases h60:(60:Int)<l.length
 ·go_wp2_with fail
  refine (CF.out w1 HB1.out).mono ?_
  rintro e wZ ⟨rfl,hbZ⟩
  have HX:=Hd (HQ.out wZ (zB HB1.out hbZ))
  clear hbZ
  go_wp2_with fail
  exact HX.out
 by_cases h32:(32:Int)<rs.length
 ·go_wp2_with fail
  refine (CF.out w1 HB1.out).mono ?_
  rintro e wZ ⟨rfl,hbZ⟩
  have HX:=Hd (HQ.out wZ (zB HB1.out hbZ))
  clear hbZ
  go_wp2_with fail
  exact HX.out
 have CYx:=Hd (CY.out w1 HB1.out)
 go_wp2_with fail
 refine CYx.out.mono ?_
 intro e w2 h2
 unfold AnyInt at h2
 obtain ⟨z2,rfl,hb2⟩:=h2
 have HB2:=Hd (zB HB1.out hb2)
 clear hb2 CY CYx
 by_cases hz2:20000<z2
 ·go_wp2_with fail
  refine (CF.out w2 HB2.out).mono ?_
  rintro e wZ ⟨rfl,hbZ⟩
  have HX:=Hd (HQ.out wZ (zB HB2.out hbZ))
  clear hbZ
  go_wp2_with fail
  exact HX.out
 go_wp2_with fail
 go_loopw [5,6] (fun sv iv wr=>putBackRel w rs sv iv wr) (fun _ iv _=>rs.length-(intOf iv).toNat)
 case atStart=>exact ⟨0,[],rfl,Nat.zero_le _,⟨HB2.out,World.ownsRow_nil _ _ _ _,fun x hx=>by cases hx⟩,rfl⟩
 case round =>
  obtain ⟨n,xs,rfl,hnl,hsm,hmap⟩:=hrel
  have hbw:=hsm.below
  obtain ⟨qa,qn,qc,rfl⟩:=zC hsm.R
  have HSM:=Hd hsm
  have HMAP:=Hd hmap
  have hxl:xs.length=n:=by
   have:=congrArg List.length hmap
   rw [List.length_map,List.length_map,List.length_take] at this
   omega
  clear hsm hmap HB1 HB2
  by_cases hlt:n<rs.length
  ·have HBW:=Hd hbw
   obtain ⟨b,off,rfl,-,-,-,hcell⟩:=yY.at HR.out hbw (show 0<rs.length by omega)
   obtain ⟨c0,c1,c2,c3,c4⟩:=hcell n hlt
   obtain ⟨x,hx⟩:∃ x,rs[n]=x:=⟨_,rfl⟩
   have hxm:x∈rs:=hx ▸ List.getElem_mem hlt
   have hE:=HR.out.E x hxm
   have hsx:=HS.out x hxm
   rw [hx] at c0 c1 c2 c3 c4
   have HRN:=Hd hx
   obtain ⟨rm,vh,vf,vb⟩:=x
   simp only [] at c0 c1 c2 c3 c4 hE hsx
   obtain ⟨ha,hc,rfl,-⟩:=Row.shape hE.H
   obtain ⟨fa,fc,rfl,-⟩:=Row.shape hE.F
   obtain ⟨ba,bc,rfl,-⟩:=Row.shape hE.B
   generalize hhn:rm.holes.length=hn' at *
   generalize hfn:rm.fnd.length=fn' at *
   generalize rm.by'.length=bn' at *
   have hW1:Below wr.heap.size wr (wr.alloc (.cells #[.string rm.nm,.int .u8 (rm.goal:Int),.slice ha hn' hc,.slice fa fn' fc,.slice ba bn' bc] 36)):=(Below.refl _ _).alloc (Nat.le_refl _) _
   have hgb:=heap_alloc_new wr (.cells #[.string rm.nm,.int .u8 (rm.goal:Int),.slice ha hn' hc,.slice fa fn' fc,.slice ba bn' bc] 36)
   obtain ⟨va,vn,vc,X1,r1,o1,b1⟩:=zQs (X:=wr.alloc (.cells #[.string rm.nm,.int .u8 (rm.goal:Int),.slice ha hn' hc,.slice fa fn' fc,.slice ba bn' bc] 36)) (hE.F.below (zB hbw hW1)) hsx.f.1
   have hg1:=keeps b1 hgb
   have hw3:(wr.alloc (.cells #[.string rm.nm,.int .u8 (rm.goal:Int),.slice ha hn' hc,.slice fa fn' fc,.slice ba bn' bc] 36)).cell? ⟨wr.heap.size,3,none⟩=some (.slice fa fn' fc):=by simp only [World.cell?,hgb];rfl
   have hw4:wr.heap.size<(wr.alloc (.cells #[.string rm.nm,.int .u8 (rm.goal:Int),.slice ha hn' hc,.slice fa fn' fc,.slice ba bn' bc] 36)).heap.size:=zD hgb
   have hz1:X1.frozen? ⟨wr.heap.size,4,none⟩=false:=by simp [World.frozen?,hg1]
   have hy1:X1.cell? ⟨wr.heap.size,4,none⟩=some (.slice ba bn' bc):=by simp [World.cell?,hg1]
   have hb2:Below wr.heap.size wr (X1.setCell ⟨wr.heap.size,4,none⟩ (.slice va vn vc)):=(zB hW1 b1).setCell (p:=⟨wr.heap.size,4,none⟩) (Nat.le_refl _) _
   have hg2:(X1.setCell ⟨wr.heap.size,4,none⟩ (.slice va vn vc)).heap[wr.heap.size]?=some (.cells #[.string rm.nm,.int .u8 (rm.goal:Int),.slice ha hn' hc,.slice fa fn' fc,.slice va vn vc] 36 (0,0)):=heap_setCell_same X1 wr.heap.size 4 _ _ _ hg1
   have o2:(X1.setCell ⟨wr.heap.size,4,none⟩ (.slice va vn vc)).ownsRow w.heap.size 38 3 (.slice va vn vc) rm.fnd.length (zU rm.fnd):=yJ (fV o1 (by have:=hbw.size;have:=hW1.size;omega)) (fun k cs fr hk=>heap_setCell_other _ _ _ _ (fun e=>by subst e;rw [hg1] at hk;cases hk))
   have R1:=Hd r1
   have HB2:=Hd hb2
   have HG2:=Hd hg2
   have HO2:=Hd o2
   have HEx:Hid (HoleRow w (.slice ha hn' hc) rm.holes∧zG w (.slice fa fn' fc) rm.fnd∧rm.fnd.length≤1048576):=Hd ⟨hE.H,hE.F,hsx.f.1⟩
   have hcap:off+n*5+4<off+rs.length*5:=by omega
   have hn0:(0:Int)≤n:=by omega
   have hnlt:(n:Int)<rs.length:=by omega
   have hncr:(n:Int)<cr:=by omega
   have hgt:rm.goal<256:=hsx.g
   clear hE hsx hxm hcell hx hW1 hgb r1 o1 b1 hg1 hb2 hg2 o2 hbw hhn hfn
   by_cases hg3:rm.goal=3
   ·have hby:byS rm=rootP::rm.fnd:=by unfold byS;exact if_pos hg3
    have hgi:decide ((rm.goal:Int)=3)=true:=decide_eq_true (by omega)
    have hgj:((rm.goal:Int) == 3)=true:=by rw [beq_iff_eq];omega
    clear hg3
    go_upto_region 8 with (fail)
    generalize wr.alloc (.cells #[.string rm.nm,.int .u8 (rm.goal:Int),.slice ha hn' hc,.slice fa fn' fc,.slice ba bn' bc] 36)=W1 at *
    go_upto_region 9 with (at_builtin;refine yA rfl _ _ _ _ R1.out rfl rfl rfl rfl ?_)
    clear c0 c1 c2 c3 c4 hz1 hy1 hw3 hw4 R1
    obtain ⟨wa,wn,wc,X3,r3,o3,b3⟩:=zQt HO2.out HEx.out.2.2
    have hgb3:=keeps b3 HG2.out
    have hz3:X3.frozen? ⟨wr.heap.size,4,none⟩=false:=by simp [World.frozen?,hgb3]
    have hy3:X3.cell? ⟨wr.heap.size,4,none⟩=some (.slice va vn vc):=by simp [World.cell?,hgb3]
    have hb4:Below wr.heap.size wr (X3.setCell ⟨wr.heap.size,4,none⟩ (.slice wa wn wc)):=(zB HB2.out b3).setCell (p:=⟨wr.heap.size,4,none⟩) (Nat.le_refl _) _
    have hgb4:(X3.setCell ⟨wr.heap.size,4,none⟩ (.slice wa wn wc)).heap[wr.heap.size]?=some (.cells #[.string rm.nm,.int .u8 (rm.goal:Int),.slice ha hn' hc,.slice fa fn' fc,.slice wa wn wc] 36 (0,0)):=heap_setCell_same X3 wr.heap.size 4 _ _ _ hgb3
    have o4:(X3.setCell ⟨wr.heap.size,4,none⟩ (.slice wa wn wc)).ownsRow w.heap.size 38 3 (.slice wa wn wc) (rootP::rm.fnd).length (zU (rootP::rm.fnd)):=yJ (fV o3 (by have:=HBW.out.size;have:=HB2.out.size;omega)) (fun k cs fr hk=>heap_setCell_other _ _ _ _ (fun e=>by subst e;rw [hgb3] at hk;cases hk))
    have HSX:=Hd (HSM.out.ext hb4)
    have HNX:Hid (SmX w (sameR rm,.slice ha hn' hc,.slice fa fn' fc,.slice wa wn wc) (X3.setCell ⟨wr.heap.size,4,none⟩ (.slice wa wn wc))):=Hd ⟨HEx.out.1,HEx.out.2.1,by show World.ownsRow _ _ _ _ _ (byS rm).length (zU (byS rm));rw [hby];exact o4⟩
    have HGX:=Hd hgb4
    have R3:=Hd r3
    obtain ⟨e1,e4⟩:(X1.setCell ⟨wr.heap.size,4,none⟩ (.slice va vn vc)).cell? ⟨wr.heap.size,1,none⟩=some (.int .u8 (rm.goal:Int))∧(X1.setCell ⟨wr.heap.size,4,none⟩ (.slice va vn vc)).cell? ⟨wr.heap.size,4,none⟩=some (.slice va vn vc):=by
     have h:=HG2.out
     simp [World.cell?,h]
    have hgl2:wr.heap.size<(X1.setCell ⟨wr.heap.size,4,none⟩ (.slice va vn vc)).heap.size:=zD HG2.out
    clear HSM HB2 HG2 HO2 HEx r3 o3 b3 hgb3 hb4 hgb4 o4
    generalize X1.setCell ⟨wr.heap.size,4,none⟩ (.slice va vn vc)=X2 at *
    go_upto_region 11 with (at_builtin;refine yA rfl _ _ _ _ R3.out rfl rfl rfl rfl ?_)
    clear e1 e4 hgl2 hz3 hy3 R3
    generalize X3.setCell ⟨wr.heap.size,4,none⟩ (.slice wa wn wc)=X4 at *
    obtain ⟨pa,pn,pc,X6,r6,h6⟩:=HSX.out.push (by omega) (sameR rm,.slice ha hn' hc,.slice fa fn' fc,.slice wa wn wc) HNX.out ⟨_,_,_,rfl⟩ ⟨_,_,_,rfl⟩ ⟨_,_,_,rfl⟩
    have R6:=Hd r6
    have HE:Hid (putBackRel w rs (.slice pa pn pc) (.int .i64 ((n:Int)+1)) X6):=Hd ⟨n+1,_,by push_cast;rfl,hlt,h6,by rw [List.map_append,HMAP.out,zAs rs hlt,List.map_append,HRN.out];rfl⟩
    obtain ⟨d0,d1,d2,d3,d4⟩:X4.cell? ⟨wr.heap.size,0,none⟩=some (.string rm.nm)∧X4.cell? ⟨wr.heap.size,1,none⟩=some (.int .u8 (rm.goal:Int))∧X4.cell? ⟨wr.heap.size,2,none⟩=some (.slice ha hn' hc)∧X4.cell? ⟨wr.heap.size,3,none⟩=some (.slice fa fn' fc)∧X4.cell? ⟨wr.heap.size,4,none⟩=some (.slice wa wn wc):=by
     have h:=HGX.out
     simp [World.cell?,h]
    clear r6 h6 HSX HNX HMAP HRN HGX
    go_wp2_with (at_builtin;refine yA rfl _ _ _ _ R6.out rfl rfl rfl rfl ?_)
    exact ⟨HE.out,by simp only [intOf];omega⟩
   ·have hby:byS rm=rm.fnd:=by unfold byS;exact if_neg hg3
    have hgi:¬ (rm.goal:Int)=3:=by omega
    go_upto_region 8 with (fail)
    generalize wr.alloc (.cells #[.string rm.nm,.int .u8 (rm.goal:Int),.slice ha hn' hc,.slice fa fn' fc,.slice ba bn' bc] 36)=W1 at *
    go_upto_region 9 with (at_builtin;refine yA rfl _ _ _ _ R1.out rfl rfl rfl rfl ?_)
    clear c0 c1 c2 c3 c4 hz1 hy1 hw3 hw4 R1
    have HSX:=Hd (HSM.out.ext HB2.out)
    have HNX:Hid (SmX w (sameR rm,.slice ha hn' hc,.slice fa fn' fc,.slice va vn vc) (X1.setCell ⟨wr.heap.size,4,none⟩ (.slice va vn vc))):=Hd ⟨HEx.out.1,HEx.out.2.1,by show World.ownsRow _ _ _ _ _ (byS rm).length (zU (byS rm));rw [hby];exact HO2.out⟩
    have HGX:=HG2
    clear HSM HB2 HG2 HO2 HEx
    generalize X1.setCell ⟨wr.heap.size,4,none⟩ (.slice va vn vc)=X2 at *
    obtain ⟨pa,pn,pc,X6,r6,h6⟩:=HSX.out.push (by omega) (sameR rm,.slice ha hn' hc,.slice fa fn' fc,.slice va vn vc) HNX.out ⟨_,_,_,rfl⟩ ⟨_,_,_,rfl⟩ ⟨_,_,_,rfl⟩
    have R6:=Hd r6
    have HE:Hid (putBackRel w rs (.slice pa pn pc) (.int .i64 ((n:Int)+1)) X6):=Hd ⟨n+1,_,by push_cast;rfl,hlt,h6,by rw [List.map_append,HMAP.out,zAs rs hlt,List.map_append,HRN.out];rfl⟩
    obtain ⟨d0,d1,d2,d3,d4⟩:X2.cell? ⟨wr.heap.size,0,none⟩=some (.string rm.nm)∧X2.cell? ⟨wr.heap.size,1,none⟩=some (.int .u8 (rm.goal:Int))∧X2.cell? ⟨wr.heap.size,2,none⟩=some (.slice ha hn' hc)∧X2.cell? ⟨wr.heap.size,3,none⟩=some (.slice fa fn' fc)∧X2.cell? ⟨wr.heap.size,4,none⟩=some (.slice va vn vc):=by
     have h:=HGX.out
     simp [World.cell?,h]
    clear r6 h6 HSX HNX HMAP HRN HGX
    go_wp2_with (at_builtin;refine yA rfl _ _ _ _ R6.out rfl rfl rfl rfl ?_)
    exact ⟨HE.out,by simp only [intOf];omega⟩
  ·obtain rfl:n=rs.length:=by omega
   have hm2:=HMAP.out
   rw [List.take_length] at hm2
   have hrules:=HSM.out.rules
   have hs':∀ x∈xs,SmallR x.1:=fun x hx=>by
    have h1:x.1∈xs.map (·.1):=List.mem_map_of_mem hx
    rw [hm2] at h1
    obtain ⟨y,hy,he⟩:=List.mem_map.1 h1
    rw [← he]
    exact zLf (HS.out y hy) (HF.out y hy)
   have hB:∀ r∈xs.map (·.1),r.by'=byS r:=fun r hr=>by
    rw [hm2] at hr
    obtain ⟨y,hy,rfl⟩:=List.mem_map.1 hr
    exact zTy y.1
   have hll2:l.length≤60:=by omega
   have hxl2:xs.length≤32:=by omega
   have CP:=Hd (zNd xs hs' l HL.out (Nat.le_trans (Nat.mul_le_mul hll2 hxl2) (by decide)) (.slice qa qn qc) (.slice al l.length cl) wr (HHd.out.T.below hbw) (HHd.out.M.below hbw) hrules (HLR.out.below hbw))
   have HB:=Hd hbw
   have HRU:=Hd hrules
   have HS':=Hd hs'
   have HBY:=Hd hB
   have hnn:¬ (rs.length:Int)<rs.length:=by omega
   clear hm2 hrules hs' hB hbw HSM HMAP HR HS HF h60 h32 hz2 hxl hnl hlt
   go_wp2_with fail
   refine CP.out.mono ?_
   intro e w3 h3
   unfold pickedPost at h3
   obtain ⟨hb3,ov,ok,P,rfl,hok⟩:=h3
   have HB3:=Hd (zB HB.out hb3)
   have HR3:=Hd (HRU.out.below hb3)
   clear hb3 CP HB HRU
   cases ok with
   | false =>
    go_wp2_with fail
    refine (CF.out w3 HB3.out).mono ?_
    rintro e wZ ⟨rfl,hbZ⟩
    have HX:=Hd (HQ.out wZ (zB HB3.out hbZ))
    clear hbZ
    go_wp2_with fail
    exact HX.out
   | true =>
    obtain ⟨hz,hpi,hmem,hfree,hpl⟩:=hok rfl
    obtain ⟨pa,pc,rfl,hpc⟩:=hpi.shape
    have HPI:=Hd hpi
    have hsp:P.length≤1048576∧∀ x∈P,x.1.2.2.length≤1048576:=⟨by omega,fun x hx=>by
     obtain ⟨m,hm,hpm⟩:=hmem x hx
     obtain ⟨_,r,hr,he⟩:=zDv hm hpm
     obtain ⟨y,hy,rfl⟩:=List.mem_map.1 hr
     rw [he];exact (HS'.out y hy).h.1⟩
    have hP:∀ p∈P.map (·.1),FoundP (xs.map (·.1)) l p:=fun p hp=>by
     obtain ⟨x,hx,rfl⟩:=List.mem_map.1 hp
     obtain ⟨m,hm,hpm⟩:=hmem x hx
     exact (zDv hm hpm).1
    obtain ⟨o,hstep⟩:=zQf HBY.out (by omega:l.length≤131072) hz hP hfree
    have HST:=Hd hstep
    have HSP:=Hd hsp
    have HW:Hid (zZ l=true):=Hd (kF.1 hz).1
    have CG2:=Hd (zCk xs HS'.out (by omega) (.slice qa qn qc) l HL.out.1 (.slice al l.length cl) P hsp.1 (.slice pa P.length pc) w3 HR3.out (HLR.out.below HB3.out) hpi)
    clear hok hz hpi hmem hfree hpl hpc hsp hP hstep
    go_wp2_with fail
    refine CG2.out.mono ?_
    intro e w4 h4
    unfold AnyBool at h4
    obtain ⟨x4,rfl,hb4⟩:=h4
    have HB4:=Hd (zB HB3.out hb4)
    have HR4:=Hd (HR3.out.below hb4)
    have HP4:=Hd (HPI.out.below hb4)
    clear hb4 CG2 HR3 HPI
    cases x4 with
    | true =>
     go_wp2_with fail
     refine (CF.out w4 HB4.out).mono ?_
     rintro e wZ ⟨rfl,hbZ⟩
     have HX:=Hd (HQ.out wZ (zB HB4.out hbZ))
     clear hbZ
     go_wp2_with fail
     exact HX.out
    | false =>
    have CS:=Hd (zHm xs HS'.out l HL.out P HSP.out (.slice qa qn qc) (.slice al l.length cl) (.slice pa P.length pc) w4 (HHd.out.T.below HB4.out) (HHd.out.M.below HB4.out) HR4.out (HLR.out.below HB4.out) HP4.out)
    go_wp2_with fail
    refine CS.out.mono ?_
    intro e w5 h5
    unfold vA at h5
    rw [HST.out] at h5
    obtain ⟨hb5,ov5,nv5,rfl,ho5,hn5⟩:=h5
    have HB5:=Hd (zB HB4.out hb5)
    simp only [] at ho5 hn5 ⊢
    obtain ⟨na5,nn5,nc5,rfl⟩:=zC hn5
    obtain ⟨oa5,on5,oc5,rfl⟩:=zC ho5
    have HO5:Hid (zG w5 (.slice oa5 on5 oc5) ((guardZ l o).map (·.1))):=Hd (by
     have h:=Row.of_owns ho5
     unfold zG
     rw [List.length_map];exact h)
    have CU:=Hd (zQr w5 l (.slice al l.length cl) (HLR.out.below HB5.out) HL.out (HHd.out.M.below HB5.out) HW.out)
    clear hb5 ho5 hn5 CS HR4 HP4
    go_wp2_with fail
    refine CU.out.mono ?_
    intro e w6 h6
    unfold putPost at h6
    obtain ⟨hb6,ov6,rfl,ho6⟩:=h6
    obtain ⟨oa6,on6,oc6,rfl⟩:=zC ho6
    have HB6:=Hd (zB HB5.out hb6)
    have HO6:Hid (zG w6 (.slice oa5 on5 oc5) ((guardZ l o).map (·.1))):=Hd (HO5.out.below hb6)
    have HQ6:Hid (zG w6 (.slice oa6 on6 oc6) ((guardZ l o).map (·.1))):=Hd (by
     have h:=Row.of_owns ho6
     rw [zQe l o (List.replicate l.length 0)]
     unfold zG
     rw [List.length_map];exact h)
    have hgl:((guardZ l o).map (·.1)).length≤1000000000:=by
     have:=zGj l o
     rw [List.length_map];omega
    clear hb6 ho6 CU HO5
    go_wp2_with fail
    refine (CF.out w6 HB6.out).mono ?_
    rintro e w7 ⟨rfl,hb7⟩
    have CQ:=Hd (zFq (.slice oa5 on5 oc5) (.slice oa6 on6 oc6) _ _ hgl hgl w7 (HO6.out.below hb7) (HQ6.out.below hb7))
    have HB7:=Hd (zB HB6.out hb7)
    clear hb7 hgl
    go_wp2_with fail
    refine CQ.out.mono ?_
    rintro e w8 ⟨x,rfl,hx,hb8⟩
    obtain rfl:x=true:=hx.2 rfl
    have HX:=Hd (HQ.out w8 (zB HB7.out hb8))
    clear hx hb8 CQ
    go_wp2_with fail
    exact HX.out
end Go.Proofs.YtfalelkfhandfaaGreatDoor
