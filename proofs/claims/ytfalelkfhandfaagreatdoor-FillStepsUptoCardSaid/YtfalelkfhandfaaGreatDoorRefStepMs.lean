/- Layer 20, the reference: Step, walked (printed by tools/genrefstep.py). -/
import Derived.Test.YtfalelkfhandfaaGreatDoorPackMs
import Derived.Test.YtfalelkfhandfaaGreatDoorMakeMs
import Derived.Test.YtfalelkfhandfaaGreatDoorMakNMs
import Derived.Test.YtfalelkfhandfaaGreatDoorMakHMs
import Derived.Test.YtfalelkfhandfaaGreatDoorTwoQMs
import Derived.Test.YtfalelkfhandfaaGreatDoorQuoted6Ms
import Derived.Test.YtfalelkfhandfaaGreatDoorStillMs
import Derived.Deep.RegionHeld3
namespace Go.Proofs.YtfalelkfhandfaaGreatDoor
set_option maxRecDepth 100000
set_option maxHeartbeats 32000000
set_option linter.all false
attribute [local irreducible] Calls
attribute [local irreducible] wpStill
open Go.RowKit
theorem pA (a:Act) (d:Nat) (v:Value):a.put (some d) v={a with tmps:=a.tmps.setIfInBounds d v}:=rfl
theorem pL (l:List Value) (i:Nat) (v:Value):l.toArray.setIfInBounds i v=(l.set i v).toArray:=List.setIfInBounds_toArray ..
theorem pZ (x:Value) (l:List Value) (v:Value):(x::l).set 0 v=v::l:=rfl
theorem pS (x:Value) (l:List Value) (i:Nat) (v:Value):(x::l).set (i+1) v=x::l.set i v:=rfl
def rsRel (rs:List RuleX) (l:List Prt) (P:List PkX) (w:World) (fv sv nv:Value) (wr:World):Prop :=
 ∃ (n free:Nat) (size:Int),nv=.int .i64 (n:Int)∧fv=.int .i64 (free:Int)∧sv=.int .i64 size∧n≤P.length∧free≤l.length∧yE (rs.map (·.1)) l (P.map (·.1)) 0 l.length=yE (rs.map (·.1)) l ((P.drop n).map (·.1)) free size∧-(2000000*((n:Int)+2))≤size∧size≤2000000*((n:Int)+2)∧(∀ q∈P.take n,∃ k x,PkOK rs l q k x)∧Below w.heap.size w wr
def r2Rel (l:List Prt) (w0:World) (ov nv iv:Value) (wx:World):Prop:=∃ i:Nat,iv=.int .i64 (i:Int)∧i≤l.length∧TwoR w0.heap.size w0 l ((List.range i).map fun (j:Nat)=>(j:Int)) ov nv wx
def r3Rel (rs:List RuleX) (l:List Prt) (P:List PkX) (w0:World) (ov nv iv:Value) (wx:World):Prop:=∃ m:Nat,iv=.int .i64 ((m:Int)-1)∧m≤P.length∧TwoR w0.heap.size w0 ((backZ l ((yA (rs.map (·.1)) l (P.map (·.1))).drop m)).map (·.1)) ((backZ l ((yA (rs.map (·.1)) l (P.map (·.1))).drop m)).map (·.2)) ov nv wx
theorem zXt {rs:List RuleX} {l:List Prt} {P:List PkX} {w0 wx:World} {ov nv:Value} (h:TwoR w0.heap.size w0 l ((List.range l.length).map fun (j:Nat)=>(j:Int)) ov nv wx):r3Rel rs l P w0 ov nv (.int .i64 ((P.length:Int)-1)) wx:=by
 have e:=zVb l
 refine ⟨P.length,rfl,Nat.le_refl _,?_⟩
 rw [List.drop_of_length_le (by unfold yA;simp),e.1,e.2]
 exact h
theorem zXu {l:List Prt} {u:Nat} (h:u<l.length):kindU l (u:Int)=((l[u]).1:Int):=by
 unfold kindU kindI
 rw [if_neg (by omega),Int.toNat_natCast,List.getElem?_eq_getElem h]
 rfl
theorem zRb {w:World} {l:List Prt} {fr:List Int} {e:Ending} {w':World} (h:xE w l fr e w'):∃ a b,∃ c:Int,e=.returned (.tuple #[a,b,.int .i64 c])∧Below w.heap.size w w':=by
 unfold xE at h
 obtain ⟨hb,h⟩:=h
 split at h
 ·exact ⟨_,_,_,h,hb⟩
 ·split at h
  ·exact ⟨_,_,_,h,hb⟩
  ·obtain ⟨ov,nv,h1,_⟩:=h
   exact ⟨_,_,_,h1,hb⟩
theorem zOy {rules:List RuleM} {l:List Prt} {n x:Int} {bs:List Bnd} {P:List Pk} {free size:Int} (h:n<0∨rules.length≤n∨x<free∨l.length≤x):yE rules l ((n,x,bs)::P) free size=1:=by rw [yE,if_pos h]
theorem zOz {rs:List RuleX} {l:List Prt} {n x:Int} {bs:List Bnd} {P:List Pk} {free size:Int} {k:Nat} (h:¬ (n<0∨rs.length≤n∨x<free∨l.length≤x)) (hk:k<rs.length) (hn:n=(k:Int)):yE (rs.map (·.1)) l ((n,x,bs)::P) free size=if rightB rs[k].1 l bs=false then 1 else if 131072<(outP rs[k].1 l bs).length then 2
   else if xX rs[k].1 l bs≠1∧(x=0∨kindU l (upN l x.toNat)≠13) then 12
   else yE (rs.map (·.1)) l P (zC l x.toNat) (size+(outP rs[k].1 l bs).length-((zC l x.toNat:Int)-x)):=by
 subst hn
 rw [yE,if_neg (by rw [List.length_map];exact h),Int.toNat_natCast,List.getElem?_map,List.getElem?_eq_getElem hk]
 rfl
theorem zXv (rs:List RuleX) (hs:∀ x∈rs,SmallR x.1) (hrn:rs.length≤1048576) (l:List Prt) (hl:SmallL l) (P:List PkX) (sp:P.length≤1048576∧∀ x∈P,x.1.2.2.length≤1048576) (vr vl vp:Value) (w:World) (hr:xZ w vr rs) (hlr:zD w vl l) (hp:vQ w vp P) :
  Calls Tryz.prog 8 #[vr,vl,vp] w (yZ (rs.map (·.1)) l (P.map (·.1)) w):=by
 have hll:=hl.1
 have hpn:=sp.1
 have HNO:Hid (∀ w' (z:Int),stepZ (rs.map (·.1)) l (P.map (·.1))=([],z)→Below w.heap.size w w'→yZ (rs.map (·.1)) l (P.map (·.1)) w (.returned (.tuple #[.slice none 0 0,.slice none 0 0,.int .i64 z])) w'):=Hd fun w' z h hb=>yZ.no h hb
 have HERR:Hid (yX (rs.map (·.1)) l=0→∀ (z:Int) w',yE (rs.map (·.1)) l (P.map (·.1)) 0 l.length=z→z≠0→Below w.heap.size w w'→yZ (rs.map (·.1)) l (P.map (·.1)) w (.returned (.tuple #[.slice none 0 0,.slice none 0 0,.int .i64 z])) w'):=Hd fun hf z w' h hz hb=>yZ.no (by unfold stepZ;rw [if_neg (by rw [hf];simp),if_pos (by rw [h];exact hz),h]) hb
 have HFIN:Hid (yX (rs.map (·.1)) l=0→yE (rs.map (·.1)) l (P.map (·.1)) 0 l.length=0→zZ l=true→∀ W e w',Below w.heap.size w W→xE W ((backZ l (yA (rs.map (·.1)) l (P.map (·.1)))).map (·.1)) ((backZ l (yA (rs.map (·.1)) l (P.map (·.1)))).map (·.2)) e w'→yZ (rs.map (·.1)) l (P.map (·.1)) w e w'):=Hd fun hf he hwl W e w' hb h=>by
  have hfree:Free l 0 (yA (rs.map (·.1)) l (P.map (·.1))):=gU (show yE (rs.map (·.1)) l (P.map (·.1)) ((0:Nat):Int) l.length=0 from he)
  have hbo:=zCx l (zK hwl) (yA (rs.map (·.1)) l (P.map (·.1))) (l.length+1) hfree (by omega) (fun x m d hx h0=>zCu hwl (by
   obtain ⟨i,hi,he⟩:=List.mem_iff_getElem.1 hx
   have:=(zBt hfree hi).1
   rw [he] at this
   exact this) x h0)
  rw [hbo] at h
  have hz:stepZ (rs.map (·.1)) l (P.map (·.1))=withZ (stepOut (rs.map (·.1)) l (P.map (·.1))):=by unfold stepZ;rw [if_neg (by rw [hf];simp),if_neg (by rw [he];simp)]
  have hso:outGo l (yA (rs.map (·.1)) l (P.map (·.1))) (l.length+1) 0 (yA (rs.map (·.1)) l (P.map (·.1)))=stepOut (rs.map (·.1)) l (P.map (·.1)):=rfl
  rw [hso] at h
  unfold xE at h
  obtain ⟨hbw,h⟩:=h
  by_cases hw:zZ ((stepOut (rs.map (·.1)) l (P.map (·.1))).map (·.1))=true
  ·rw [if_neg (by rw [hw];decide),if_neg (by simp)] at h
   obtain ⟨ov,nv,h1,h2,h3⟩:=h
   unfold yZ
   rw [hz]
   unfold withZ
   rw [if_pos hw]
   exact ⟨zB hb hbw,ov,nv,h1,jM h2 hb.size,jM h3 hb.size⟩
  ·rw [if_pos (by simpa using hw)] at h
   rw [h]
   exact yZ.no (by rw [hz];unfold withZ;rw [if_neg hw]) (zB hb hbw)
 have HLEN:Hid (yE (rs.map (·.1)) l (P.map (·.1)) 0 l.length=0→zZ l=true→(backZ l (yA (rs.map (·.1)) l (P.map (·.1)))).length≤131072):=Hd fun he hwl=>by
  have hfree:Free l 0 (yA (rs.map (·.1)) l (P.map (·.1))):=gU (show yE (rs.map (·.1)) l (P.map (·.1)) ((0:Nat):Int) l.length=0 from he)
  rw [zCx l (zK hwl) (yA (rs.map (·.1)) l (P.map (·.1))) (l.length+1) hfree (by omega) (zVc hwl hfree)]
  exact fR hwl (show yE (rs.map (·.1)) l (P.map (·.1)) ((0:Nat):Int) l.length=0 from he)
 have HSP:=Hd sp.2
 generalize yZ (rs.map (·.1)) l (P.map (·.1)) w=Q at *
 have CC:=Hd (zOr rs hs hrn l hll vr vl w hr hlr)
 have CM:=Hd (fun q hq k x (h:PkOK rs l q k x) W (hb:Below w.heap.size w W)=>zOx hs hll hr hp hlr hq h W hb)
 have CR:=Hd (fun k (hk:k<rs.length) (hz:ruleZ rs[k].1=0) q (hq:q∈P) W (hb:Below w.heap.size w W)=>zUm rs[k].1 (zQa hz) (hs _ (List.getElem_mem hk)).h.1 _ _ _ l hl vl q.2 q.1.2.2 (sp.2 q hq) W ((hr.E _ (List.getElem_mem hk)).below hb) (hlr.below hb) ((hp.E q hq).below hb))
 have CK:=Hd (fun k (hk:k<rs.length) (hz:ruleZ rs[k].1=0) q (hq:q∈P) (ht:rightB rs[k].1 l q.1.2.2=true) W (hb:Below w.heap.size w W)=>zKo rs[k].1 hz (hs _ (List.getElem_mem hk)) _ _ _ l hll vl q.2 q.1.2.2 ht W ((hr.E _ (List.getElem_mem hk)).below hb) (hlr.below hb) ((hp.E q hq).below hb))
 have CL:=Hd (fun (hw:zZ l=true) (hok:AllOK rs l P) n en (hn:n<P.length) (hen:en≤l.length) W (hb:Below w.heap.size w W)=>zUj rs hs l hll hw P hpn hok vr vl vp n en hn hen W (hr.below hb) (hlr.below hb) (hp.below hb))
 have HLR:=Hd hlr
 have CUP:=Hd (fun (hw:zZ l=true) x (hx:x<l.length) W (hb:Below w.heap.size w W)=>zPj l (by omega) _ (zK hw) vl x hx W (hlr.below hb))
 have CE:=Hd (fun (hw:zZ l=true) x (hx:x<l.length) W (hb:Below w.heap.size w W)=>show Calls Tryz.prog 28 #[vl,.int .i64 (x:Int)] W fun e w'=>e=.returned (.int .i64 (zC l x:Int))∧W=w' by
  have:=gT l (by omega) vl x (by omega) W (hlr.below hb)
  rw [zBr (zK hw) hx] at this
  exact this)
 obtain ⟨ar,cr,rfl,hcr⟩:=hr.shape
 obtain ⟨al,cl,rfl,hcl⟩:=hlr.slice
 obtain ⟨ap,cp,rfl,hcp⟩:=hp.shape
 have HR:=Hd hr
 have HP:=Hd hp
 clear hr hlr hp hs sp hl
 go_enter Tryz.func8,Tryz.ntmps8
 go_wp2_with fail
 refine CC.out.mono ?_
 rintro e w1 ⟨rfl,hb1⟩
 have HB1:=Hd hb1
 clear hb1 CC
 by_cases hfe:yX (rs.map (·.1)) l=0
 case neg =>
  have HX:=Hd (HNO.out w1 (yX (rs.map (·.1)) l) (by unfold stepZ;rw [if_pos hfe]) HB1.out)
  have g1:(yX (rs.map (·.1)) l != 0)=true:=by rw [bne_iff_ne];exact hfe
  have g2:(yX (rs.map (·.1)) l == 0)=false:=by rw [beq_eq_false_iff_ne];exact hfe
  clear hfe
  generalize yX (rs.map (·.1)) l=z at *
  go_wp2_with fail
  exact HX.out
 obtain ⟨hwl,_,hrz⟩:=gJ.1 hfe
 have HE0:=Hd (HERR.out hfe)
 have HF0:=Hd (HFIN.out hfe)
 have HW:=Hd hwl
 have HRZ:Hid (∀ k (hk:k<rs.length),ruleZ rs[k].1=0):=Hd fun k hk=>hrz _ (List.mem_map.2 ⟨_,List.getElem_mem hk,rfl⟩)
 rw [hfe]
 clear hfe hwl hrz HERR HFIN HNO
 go_wp2_with fail
 go_loopw [10,11,12] (fun fv sv nv wr=>rsRel rs l P w fv sv nv wr) (fun _ _ nv _=>P.length-(intOf nv).toNat)
 case atStart=>exact ⟨0,0,(l.length:Int),rfl,rfl,rfl,Nat.zero_le _,Nat.zero_le _,rfl,by omega,by omega,fun p hp=>by simp at hp,HB1.out⟩
 case round =>
  obtain ⟨n,free,size,rfl,rfl,rfl,hn,hfr,herr,hsz1,hsz2,hok,hb⟩:=hrel
  have HE:=Hd herr
  have HOK:=Hd hok
  have HB:=Hd hb
  clear herr hok hb
  by_cases hlt:n<P.length
  case neg =>
   as_aux_lemma =>
   obtain rfl:n=P.length:=by omega
   have hnl:¬ (P.length:Int)<P.length:=by omega
   have he:=HE.out
   rw [List.drop_length,List.map_nil,yE] at he
   have hok:=HOK.out
   rw [List.take_of_length_le (Nat.le_refl _)] at hok
   by_cases hbig:(131072:Int)<size
   ·have HX:=Hd (HE0.out 2 wr (by rw [he,if_pos hbig]) (by decide) HB.out)
    clear he hok hlt
    go_wp2_with fail
    exact HX.out
   rw [if_neg hbig] at he
   have HFI:=Hd (HF0.out he HW.out)
   have HLN:=Hd (HLEN.out he HW.out)
   have HFR:Hid (Free l 0 (yA (rs.map (·.1)) l (P.map (·.1)))):=Hd (gU (show yE (rs.map (·.1)) l (P.map (·.1)) ((0:Nat):Int) l.length=0 from he))
   have HAOK:Hid (AllOK rs l P):=Hd hok
   have T0:=TwoR.freshO wr
   obtain ⟨v1,w2,hap1,t1⟩:=T0.moreO ((HLR.out.below HB.out).below ((Below.refl _ _).alloc (Nat.le_refl _) _)) (by simp) (by omega)
   rw [List.nil_append] at t1
   have HAP1:=Hd hap1
   have HT1:=Hd t1
   clear T0 hap1 t1 he hok hlt
   go_wp2_with (first | (at_builtin;refine zF rfl _ _ _ _ HAP1.out rfl rfl rfl rfl ?_))
   go_loopw [18,19] (fun nv iv wx=>r2Rel l wr v1 nv iv wx) (fun _ iv _=>l.length-(intOf iv).toNat)
   case atStart=>exact ⟨0,rfl,Nat.zero_le _,HT1.out⟩
   case round =>
    obtain ⟨i,rfl,hi,ht⟩:=hrel
    rename World=>wx
    have HT:=Hd ht
    clear ht
    by_cases hil:i<l.length
    ·obtain ⟨v2,w3,hap2,t2⟩:=HT.out.pushN (i:Int) (by simp;omega)
     have HX:Hid (r2Rel l wr v1 v2 (.int .i64 ((i:Int)+1)) w3):=Hd ⟨i+1,by push_cast;rfl,hil,by rw [List.range_succ,List.map_append];exact t2⟩
     have HAP2:=Hd hap2
     have hil2:(i:Int)<l.length:=by omega
     have hwi:IntKind.i64.wrap ((i:Int)+1)=(i:Int)+1:=wI (by omega)
     clear hap2 t2
     go_wp2_with (first | (at_builtin;refine zF rfl _ _ _ _ HAP2.out rfl rfl rfl rfl ?_))
     exact ⟨HX.out,by simp only [intOf];omega⟩
    obtain rfl:i=l.length:=by omega
    have hil2:¬ (l.length:Int)<l.length:=by omega
    have HT3:=Hd (zXt (rs:=rs) (P:=P) HT.out)
    have hwp:IntKind.i64.wrap ((P.length:Int)-1)=(P.length:Int)-1:=wI (by omega)
    clear HT hil
    go_wp2_with fail
    go_loopw [17,18,20] (fun ov nv iv wy=>r3Rel rs l P wr ov nv iv wy) (fun _ _ iv _=>(intOf iv+1).toNat)
    case atStart=>exact HT3.out
    case round =>
     obtain ⟨m,rfl,hm,ht⟩:=hrel
     rename World=>wy
     obtain ⟨oa,oc,hov,hoc⟩:=zD.slice ht.oRow
     obtain ⟨na,nc,hnv,hnc,-⟩:=zI.open' ht.nRow
     rw [List.length_map] at hov hnv hoc hnc
     subst hov
     subst hnv
     have HBY:=Hd (zB HB.out ht.b)
     by_cases hm0:m=0
     ·subst hm0
      rw [List.drop_zero] at ht hoc hnc ⊢
      have CW:=Hd (zXw wy _ _ _ _ ht.oRow ht.nRow (by rw [List.length_map];have:=HLN.out;omega))
      have hln:=HLN.out
      clear ht hoc hnc hln
      go_wp2_with fail
      refine CW.out.mono ?_
      intro e w9 h9
      obtain ⟨a,b,c,rfl,hb9⟩:=zRb h9
      have HX:=Hd (HFI.out wy _ w9 HBY.out h9)
      clear h9 hb9
      go_wp2_with fail
      exact HX.out
     obtain ⟨k,rfl⟩:∃ k,m=k+1:=⟨m-1,by omega⟩
     have hkP:k<P.length:=by omega
     have hk1:(((k+1:Nat):Int)-1)=(k:Int):=by push_cast;omega
     rw [hk1]
     clear hk1
     have hqm:=List.getElem_mem hkP
     obtain ⟨rk,x,hq⟩:=HAOK.out _ hqm
     obtain ⟨hstep,hlen,hez,hzn,hup⟩:=zVd hll HW.out hpn HAOK.out HFR.out hkP hq
     obtain ⟨pb,po,rb,ro,rfl,rfl,hcell⟩:=zOw HR.out HP.out hkP hq.hk
     have hbr:=HP.out.E _ hqm
     have HMK:=Hd (fun W hb=>CM.out _ hqm rk x hq W hb)
     have hxl:=hq.hl
     have hrk:=hq.hk
     have hon:=hq.hn
     have htb:=zCj hq.hz hq.ht (vT hq.ht)
     have htr:yT ((outP (rs[rk]'hrk).1 l (P[k]).1.2.2).map (·.1))=xX (rs[rk]'hrk).1 l (P[k]).1.2.2:=rfl
     rw [hq.hr,hq.hx] at hcell
     have hge:=zN (zK HW.out) hxl
     have hel:=hge.2
     have CEx:=Hd (fun W hb=>CE.out HW.out x hxl W hb)
     have CUx:Hid (∀ W,Below w.heap.size w W→Calls Tryz.prog 27 #[.slice al l.length cl,.int .i64 (x:Int)] W fun e w'=>e=.returned (.int .i64 (upN l x))∧W=w'):=Hd fun W hb=>CUP.out HW.out x hxl W hb
     obtain ⟨lz,hlz⟩:∃ lz,laterZ l (yA (rs.map (·.1)) l ((P.drop (k+1)).map (·.1))) (zC l x)=lz:=⟨_,rfl⟩
     have HLZ:=Hd hlz
     rw [hlz] at hlen
     have HSTEP:=Hd hstep
     clear hlz hstep hqm
     generalize rs[rk]=X at *
     obtain ⟨r,vh,vf,vy⟩:=X
     generalize P[k]=q at *
     obtain ⟨⟨q1,q2,bs⟩,vb⟩:=q
     simp only [] at hcell hbr hon htb htr HMK HSTEP
     obtain ⟨ab,cb,rfl,hcb⟩:=Row.shape hbr
     have HCELL:=Hd hcell
     generalize hZZ:backZ l ((yA (rs.map (·.1)) l (P.map (·.1))).drop (k+1))=ZZ at *
     clear hZZ hbr
     obtain ⟨tz,htz⟩:∃ tz,xX r l bs=tz:=⟨_,rfl⟩
     rw [htz] at htb htr HSTEP
     have HTR:=Hd htr
     clear htz htr
     generalize outP r l bs=O at *
     have hxe:x<zC l x:=hge.1
     clear hge
     generalize zC l x=ex at *
     obtain ⟨c0,c1,c2,-⟩:=hcell wy HBY.out
     have hk0:(0:Int)≤(k:Int):=by omega
     have hkl:(k:Int)<P.length:=by omega
     have hkc:(k:Int)<cp:=by omega
     have hwk:IntKind.i64.wrap ((k:Int)-1)=(k:Int)-1:=wI (by omega)
     have hr0:(0:Int)≤(rk:Int):=by omega
     have hrl:(rk:Int)<rs.length:=by omega
     have hrc:(rk:Int)<cr:=by omega
     have HX2:Hid (MtK (wy.alloc (.cells #[.int .i64 (rk:Int),.int .i64 (x:Int),.slice ab bs.length cb] 47)) wy.heap.size (rk:Int) (x:Int) (.slice ab bs.length cb)):=Hd (heap_alloc_new _ _)
     have HBA:=Hd ((Below.refl wy.heap.size wy).alloc (Nat.le_refl _) (.cells #[.int .i64 (rk:Int),.int .i64 (x:Int),.slice ab bs.length cb] 47))
     have HTY:=Hd ht
     clear ht hcell
     go_upto_region 31 with (fail)
     clear c0 c1 c2
     have hgx:wy.heap.size<(wy.alloc (.cells #[.int .i64 (rk:Int),.int .i64 (x:Int),.slice ab bs.length cb] 47)).heap.size:=by rw [World.size_alloc];omega
     generalize wy.alloc (.cells #[.int .i64 (rk:Int),.int .i64 (x:Int),.slice ab bs.length cb] 47)=W2 at *
     have HB2:=Hd (zB HBY.out HBA.out)
     have HT2:=Hd (HTY.out.below HBA.out)
     have hog:=fun b h=>(HTY.out.o.lt b h).2
     have HOG:=Hd hog
     clear hog
     generalize wy.heap.size=gx at *
     have HS:Hid (∀ W,Below W2.heap.size W2 W→(fun W=>W.cell? ⟨gx,0,none⟩=some (.int .i64 (rk:Int))∧W.cell? ⟨gx,1,none⟩=some (.int .i64 (x:Int))∧W.cell? ⟨gx,2,none⟩=some (.slice ab bs.length cb)∧W.cell? ⟨rb,ro+rk*5,none⟩=some (.string r.nm)∧W.cell? ⟨rb,ro+rk*5+1,none⟩=some (.int .u8 (r.goal:Int))∧W.cell? ⟨rb,ro+rk*5+2,none⟩=some vh∧W.cell? ⟨rb,ro+rk*5+3,none⟩=some vf∧W.cell? ⟨rb,ro+rk*5+4,none⟩=some vy) W):=Hd fun W hb=>by
      obtain ⟨x0,x1,x2⟩:=(HX2.out.keep hb).cells
      exact ⟨x0,x1,x2,(HCELL.out W (zB HB2.out hb)).2.2.2⟩
     have HD2:=Hd ((Below.refl W2.heap.size W2).drew)
     have HBD:=Hd (zB HB2.out HD2.out)
     go_region_held3 (fun W=>W.cell? ⟨gx,0,none⟩=some (.int .i64 (rk:Int))∧W.cell? ⟨gx,1,none⟩=some (.int .i64 (x:Int))∧W.cell? ⟨gx,2,none⟩=some (.slice ab bs.length cb)∧W.cell? ⟨rb,ro+rk*5,none⟩=some (.string r.nm)∧W.cell? ⟨rb,ro+rk*5+1,none⟩=some (.int .u8 (r.goal:Int))∧W.cell? ⟨rb,ro+rk*5+2,none⟩=some vh∧W.cell? ⟨rb,ro+rk*5+3,none⟩=some vf∧W.cell? ⟨rb,ro+rk*5+4,none⟩=some vy) (first | exact HS.out _ HD2.out | exact HS.out _ HB3.out) ((go_at_call 25;(with_reducible refine (HMK.out _ HBD.out).mono ?_);intro e w3 h3;unfold madeOK at h3;obtain ⟨av,bv,rfl,hb3,ha3,hn3⟩:=h3;have HB3:=Hd (zB HD2.out hb3);have HA:=Hd ha3;have HBR:=Hd hn3;clear hb3 ha3 hn3;(try dsimp only)))
     obtain ⟨aa,ac,rfl,hac⟩:=zD.slice (HA.out w3 (Above.refl _ _))
     obtain ⟨ba,bc,rfl,hbc,-⟩:=zI.open' (HBR.out w3 (Above.refl _ _))
     have CT:=Hd (fN (O.map (·.1)) (by rw [List.length_map];omega) _ w3.drew (HA.out w3.drew (Above.of_below (Below.refl _ _).drew)))
     rw [HTR.out] at CT
     rw [List.length_map] at hac hbc HA HBR CT ⊢
     have HBW3:=Hd (zB HB2.out HB3.out)
     have HT3:=Hd (HT2.out.below HB3.out)
     have HX3:=Hd (HX2.out.keep HB3.out)
     have hB2s:W2.heap.size≤W2.drew.heap.size:=HD2.out.size
     obtain ⟨x0,x1,x2⟩:=HX3.out.cells
     clear x0 x2 HS HMK HCELL HT2 HTY hac hbc
     obtain ⟨zl,hzl⟩:∃ zl,ZZ.length=zl:=⟨_,rfl⟩
     rw [hzl] at hlen hez hzn hoc hnc HT3 ⊢
     have hz1:(x:Int)≤(oc:Int):=by omega
     have hz2:(x:Int)≤(nc:Int):=by omega
     have hz3:(0:Int)≤(x:Int):=by omega
     have hz4:(0:Int)≤(ex:Int):=by omega
     have hz5:(ex:Int)≤(zl:Int):=by omega
     have hz6:(ex:Int)≤(oc:Int):=by omega
     have hz7:(ex:Int)≤(nc:Int):=by omega
     have hws:IntKind.i64.wrap ((zl:Int)-lz)=(ex:Int):=wI (by omega)
     have HLE:=Hd hlen
     clear hlen
     by_cases hx0:x=0
     ·as_aux_lemma =>
      have hx1:¬ (0:Int)<(x:Int):=by omega
      rw [if_neg (show ¬ 0<x by omega)] at HSTEP
      obtain ⟨ZB,hZB⟩:∃ ZB,ZZ=ZB:=⟨_,rfl⟩
      have t5:=HT3.out
      rw [hZB] at t5 HSTEP hzl
      have hzB:=hzl
      clear hZB hzl HT3 HX2 hup CUx CT HOG hx0
      go_wp2_with fail
      refine (CEx.out w3 HBW3.out).mono ?_
      rintro e _ ⟨rfl,rfl⟩
      clear x1
      have HBW5:=HBW3
      have HX5:=HX3
      have HAB:Hid (Above W2.drew.heap.size w3 w3):=Hd (Above.refl _ _)
      generalize hW5:w3=W5 at *
      clear hW5
      have CLx:=Hd (CL.out HW.out HAOK.out k ex hkP hel W5 HBW5.out)
      rw [HLZ.out] at CLx
      have HT5:=Hd t5
      clear t5
      go_wp2_with fail
      refine CLx.out.mono ?_
      rintro e W6 ⟨rfl,hb6⟩
      have HB56:=Hd hb6
      clear hb6 CLx
      have T6:=HT5.out.below HB56.out
      have hlA:(ZB.map (·.1)).length=zl:=by rw [List.length_map];exact hzB
      have hlF:(ZB.map (·.2)).length=zl:=by rw [List.length_map];exact hzB
      rw [← hlA] at T6
      have r1:=T6.takeO (k:=x) (by omega)
      have r3:=T6.dropO (k:=ex) (by omega)
      rw [hlA] at T6 r3
      rw [← hlF] at T6
      have r4:=T6.takeN (k:=x) (by omega)
      have r6:=T6.dropN (k:=ex) (by omega)
      rw [hlF] at T6 r6
      have N0:=TwoR.freshO W6
      obtain ⟨v1,w7,hap1,n1⟩:=N0.moreO (r1.below ((Below.refl _ _).alloc (Nat.le_refl _) _)) (by simp) (by rw [List.length_take];omega)
      obtain ⟨v2,w8,hap2,n2⟩:=n1.moreO (HA.out w7 (HAB.out.trans (Above.of_below (zB HB56.out n1.b)))) (by simp;omega) (by rw [List.length_map];omega)
      have ho:∃ so:Value,((oc=ex∧zl=ex∧so=.slice oa 0 0)∨(¬ oc=ex∧∃ og2,oa=some ⟨og2,0,none⟩∧so=.slice (some ⟨og2,ex*3,none⟩) (zl-ex) (oc-ex)))∧∀ W',Below W6.heap.size W6 W'→zD W' so ((ZB.map (·.1)).drop ex):=by
       rcases r3 with ⟨h1,h2,h3⟩ | ⟨h1,g,h2,h3⟩
       ·exact ⟨_,Or.inl ⟨h1,h2,rfl⟩,fun W' _=>by rw [h3];exact zDt W' oa 3⟩
       ·exact ⟨_,Or.inr ⟨h1,g,h2,rfl⟩,h3⟩
      have hn:∃ sn:Value,((nc=ex∧zl=ex∧sn=.slice na 0 0)∨(¬ nc=ex∧∃ ng,na=some ⟨ng,0,none⟩∧sn=.slice (some ⟨ng,ex,none⟩) (zl-ex) (nc-ex)))∧∀ W',Below W6.heap.size W6 W'→zI W' sn .i64 ((ZB.map (·.2)).drop ex):=by
       rcases r6 with ⟨h1,h2,h3⟩ | ⟨h1,g,h2,h3⟩
       ·exact ⟨_,Or.inl ⟨h1,h2,rfl⟩,fun W' _=>by rw [h3];exact zDt W' na 1⟩
       ·exact ⟨_,Or.inr ⟨h1,g,h2,rfl⟩,h3⟩
      obtain ⟨so,hso,q5⟩:=ho
      obtain ⟨sn,hsn,q6⟩:=hn
      obtain ⟨v3,w9,hap3,n3⟩:=n2.moreO (q5 w8 n2.b) (by simp;omega) (by rw [List.length_drop];omega)
      have n4:=n3.freshN
      obtain ⟨v5,w10,hap5,n5⟩:=n4.moreN (r4.below n4.b) (by simp) (by rw [List.length_take];omega)
      obtain ⟨v6,w11,hap6,n6⟩:=n5.moreN (HBR.out w10 (HAB.out.trans (Above.of_below (zB HB56.out n5.b)))) (by simp;omega) (by rw [List.length_map];omega)
      obtain ⟨v7,w12,hap7,n7⟩:=n6.moreN (q6 w11 n6.b) (by simp;omega) (by rw [List.length_drop];omega)
      have c7:=((HX5.out.keep (zB HB56.out ((Below.refl _ _).alloc (Nat.le_refl _) (.cells #[] 38)))).cells).2.1
      have c9:=((HX5.out.keep (zB HB56.out n4.b)).cells).2.1
      have HAP1:=Hd hap1
      have HAP2:=Hd hap2
      have HAP3:=Hd hap3
      have HAP5:=Hd hap5
      have HAP6:=Hd hap6
      have HAP7:=Hd hap7
      have HX:Hid (r3Rel rs l P wr v3 v7 (.int .i64 ((k:Int)-1)) w12):=Hd ⟨k,rfl,by omega,by
       have h:=n7.base (B':=wr.heap.size) (v0:=wr) (Nat.le_trans HT5.out.B HB56.out.size) (HT5.out.b.trans ((HB56.out.mono HT5.out.B).trans (n7.b.mono (Nat.le_trans HT5.out.B HB56.out.size))))
       rw [List.nil_append,List.nil_append,← List.map_take,← List.map_take,← List.map_drop,← List.map_drop,← List.map_append,← List.map_append,← List.map_append,← List.map_append,List.append_assoc] at h
       rw [HSTEP.out]
       exact h⟩
      clear hap1 hap2 hap3 hap5 hap6 hap7 n1 n2 n3 n4 n5 n6 n7 N0 T6 r1 r3 r4 r6 q5 q6 hlA hlF
      rcases hso with ⟨hs1,hs2,hs3⟩ | ⟨hs1,og2,hs2,hs3⟩ <;> rcases hsn with ⟨hs4,hs5,hs6⟩ | ⟨hs4,ng,hs5,hs6⟩
      all_goals
       as_aux_lemma =>
       subst hs3 hs6
       (try subst hs1)
       (try subst hs4)
       (try subst hs2)
       (try (simp only [Option.some.injEq,Addr.mk.injEq,and_true] at hs2;subst hs2))
       (try subst hs5)
       (try rw [Nat.sub_self] at HAP3)
       (try rw [Nat.sub_self] at HAP7)
       go_upto_region 38 with (at_builtin;refine zF rfl _ _ _ _ HAP1.out rfl rfl rfl rfl ?_)
       clear c7
       go_upto_region 39 with (at_builtin;refine zF rfl _ _ _ _ HAP2.out rfl rfl rfl rfl ?_)
       go_upto_region 40 with (at_builtin;refine zF rfl _ _ _ _ HAP3.out rfl rfl rfl rfl ?_)
       go_upto_region 41 with (at_builtin;refine zF rfl _ _ _ _ HAP5.out rfl rfl rfl rfl ?_)
       clear c9
       go_upto_region 42 with (at_builtin;refine zF rfl _ _ _ _ HAP6.out rfl rfl rfl rfl ?_)
       go_upto_region 43 with (at_builtin;refine zF rfl _ _ _ _ HAP7.out rfl rfl rfl rfl ?_)
       go_wp2_with fail
       exact ⟨HX.out,by simp only [intOf];omega⟩
     as_aux_lemma =>
     obtain ⟨u,hu,hux,huz,hz8,hz9⟩:=hup (by omega)
     have hx1:(0:Int)<(x:Int):=by omega
     rw [if_pos (show 0<x by omega)] at HSTEP
     rw [hu] at CUx HSTEP
     rw [Int.toNat_natCast] at HSTEP
     obtain ⟨og,rfl⟩:=xI HT3.out.o (by rw [List.length_map];omega)
     have hogx:=HOG.out og rfl
     have hogb:=(HT3.out.o.lt og rfl).1
     have t3:=HT3.out.below (Below.refl w3.heap.size w3).drew
     rw [← hzl] at t3
     obtain ⟨kc,kz,kt⟩:=t3.kids huz (tz-1)
     rw [fS,hzl,← zJd ZZ u (tz-1)] at kt
     have hzB:(addKN ZZ u (tz-1)).length=zl:=by rw [fS];exact hzl
     obtain ⟨z,hz⟩:∃ z,(ZZ[u]).1.2.1=z:=⟨_,rfl⟩
     rw [hz] at kc kt hz8 hz9
     have hul0:(0:Int)≤(u:Int):=by omega
     have hul1:(u:Int)<(zl:Int):=by omega
     have hul2:(u:Int)<(oc:Int):=by omega
     rw [show z+(tz-1)=z+tz-1 by omega] at kt
     have hw8:IntKind.i64.wrap (z+tz)=z+tz:=wI (by omega)
     have hw9:IntKind.i64.wrap (z+tz-1)=z+tz-1:=wI (by omega)
     have HBW5:Hid (Below w.heap.size w (w3.drew.setCell ⟨og,u*3+1,none⟩ (.int .i64 (z+tz-1)))):=Hd ((HBW3.out.drew).setCell (p:=⟨og,u*3+1,none⟩) (by have:=HB.out.size;show w.heap.size≤og;omega) _)
     have HX5:Hid (MtK (w3.drew.setCell ⟨og,u*3+1,none⟩ (.int .i64 (z+tz-1))) gx (rk:Int) (x:Int) (.slice ab bs.length cb)):=Hd (by
      have h:=HX3.out.keep (Below.refl _ _).drew
      unfold MtK at h ⊢
      rw [heap_setCell_other _ _ _ _ (show gx≠og by omega)];exact h)
     have HAB:Hid (Above W2.drew.heap.size w3 (w3.drew.setCell ⟨og,u*3+1,none⟩ (.int .i64 (z+tz-1)))):=Hd ((Above.of_below (Below.refl _ _).drew).setCell (by omega) _ _)
     have t5:=kt
     have HT5a:=Hd t5
     have HZB:=Hd hzB
     have HKC:=Hd kc
     have HKZ:=Hd kz
     clear hup huz hz hz8 hz9 kt t3 t5 hzB kc kz hzl HT3 HX2 HOG hogx hx0 hu
     generalize addKN ZZ u (tz-1)=ZB at *
     go_wp2_with fail
     refine (CEx.out w3 HBW3.out).mono ?_
     rintro e _ ⟨rfl,rfl⟩
     go_wp2_with fail
     refine (CUx.out w3 HBW3.out).mono ?_
     rintro e _ ⟨rfl,rfl⟩
     clear x1
     have hS0:=HKC.out
     have kz:=HKZ.out
     go_upto_region 35 with (fail)
     refine kS (S:=fun W=>W.cell? ⟨og,u*3+1,none⟩=some (.int .i64 z)) [13] (by kernel_rfl) ?_
     refine tkF 0 180 ?vq501 rfl ?q501 (fun _=>hS0) ?_
     case q501=>intro w q;clear q;go_simp;(try with_reducible rfl)
     try simp only[pA,pL,pZ,pS]
     refine tkF 1 181 ?vq502 rfl ?q502 (fun _=>hS0) ?_
     case q502=>intro w q;clear q;go_simp;(try with_reducible rfl)
     try simp only[pA,pL,pZ,pS]
     refine tkF 2 182 ?vq503 rfl ?q503 (fun _=>hS0) ?_
     case q503=>intro w q;clear q;go_simp;(try with_reducible rfl)
     try simp only[pA,pL,pZ,pS]
     refine tkF 3 183 ?vq504 rfl ?q504 (fun _=>hS0) ?_
     case q504=>intro w q;clear q;go_simp;(try with_reducible rfl)
     try simp only[pA,pL,pZ,pS]
     refine tkF 4 184 ?vq505 rfl ?q505 (fun _=>hS0) ?_
     case q505=>intro w q;clear q;go_simp;(try with_reducible rfl)
     try simp only[pA,pL,pZ,pS]
     refine tkF 5 185 ?vq506 rfl ?q506 (fun _=>hS0) ?_
     case q506=>intro w q;clear q;go_simp;(try with_reducible rfl)
     try simp only[pA,pL,pZ,pS]
     refine tkU [13,10,9] 6 186 ?vq507 rfl ?q507 hS0 ?_
     case q507=>intro w q;(try dsimp only at q);go_simp;(try with_reducible rfl)
     try simp only[pA,pL,pZ,pS]
     refine tkF 7 187 ?vq508 rfl ?q508 (fun _=>hS0) ?_
     case q508=>intro w q;clear q;go_simp;(try with_reducible rfl)
     try simp only[pA,pL,pZ,pS]
     refine yB (rs:=[8]) (by kernel_rfl) (by simp) ?_
     refine zJ.cons (o:=⟨some 188,_,_,_,_,_⟩) rfl (fun K hK=>?_) zJ.nil
     go_simp
     go_at_call 26
     refine CT.out.mono ?_
     rintro e _ ⟨rfl,rfl⟩
     (try dsimp only)
     refine hK.out _ _ (fun _=>hS0) ?_
     clear hK K
     try simp only[pA,pL,pZ,pS]
     refine tkF 9 189 ?vq509 rfl ?q509 (fun _=>hS0) ?_
     case q509=>intro w q;clear q;go_simp;(try with_reducible rfl)
     try simp only[pA,pL,pZ,pS]
     refine tkF 10 190 ?vq510 rfl ?q510 (fun _=>hS0) ?_
     case q510=>intro w q;clear q;go_simp;(try with_reducible rfl)
     try simp only[pA,pL,pZ,pS]
     refine tkF 11 191 ?vq511 rfl ?q511 (fun _=>hS0) ?_
     case q511=>intro w q;clear q;go_simp;(try with_reducible rfl)
     try simp only[pA,pL,pZ,pS]
     refine tkF 12 192 ?vq512 rfl ?q512 (fun _=>hS0) ?_
     case q512=>intro w q;clear q;go_simp;(try with_reducible rfl)
     try simp only[pA,pL,pZ,pS]
     refine yB (rs:=[13]) (by kernel_rfl) (by simp) ?_
     refine zJ.cons (o:=⟨none,_,_,_,_,_⟩) rfl (fun K hK=>?_) zJ.nil
     go_simp
     refine hK.out _ _ (fun h=>Bool.noConfusion (h.symm.trans (by kernel_rfl:_=false))) ?_
     clear hK K
     try simp only[pA,pL,pZ,pS]
     refine jD (by kernel_rfl) ?_ _
     clear hS0 kz hw8 hw9 hul0 hul1 hul2 CT
     have t5:=HT5a.out
     have hzB:=HZB.out
     clear HT5a HKC HKZ HZB hogb
     rw [World.setCell_drew] at HBW5 HX5 HAB t5
     generalize (w3.setCell ⟨og,u*3+1,none⟩ (.int .i64 (z+tz-1))).drew=W5 at *
     have CLx:=Hd (CL.out HW.out HAOK.out k ex hkP hel W5 HBW5.out)
     rw [HLZ.out] at CLx
     have HT5:=Hd t5
     clear t5
     go_wp2_with fail
     refine CLx.out.mono ?_
     rintro e W6 ⟨rfl,hb6⟩
     have HB56:=Hd hb6
     clear hb6 CLx
     have T6:=HT5.out.below HB56.out
     have hlA:(ZB.map (·.1)).length=zl:=by rw [List.length_map];exact hzB
     have hlF:(ZB.map (·.2)).length=zl:=by rw [List.length_map];exact hzB
     rw [← hlA] at T6
     have r1:=T6.takeO (k:=x) (by omega)
     have r3:=T6.dropO (k:=ex) (by omega)
     rw [hlA] at T6 r3
     rw [← hlF] at T6
     have r4:=T6.takeN (k:=x) (by omega)
     have r6:=T6.dropN (k:=ex) (by omega)
     rw [hlF] at T6 r6
     have N0:=TwoR.freshO W6
     obtain ⟨v1,w7,hap1,n1⟩:=N0.moreO (r1.below ((Below.refl _ _).alloc (Nat.le_refl _) _)) (by simp) (by rw [List.length_take];omega)
     obtain ⟨v2,w8,hap2,n2⟩:=n1.moreO (HA.out w7 (HAB.out.trans (Above.of_below (zB HB56.out n1.b)))) (by simp;omega) (by rw [List.length_map];omega)
     have ho:∃ so:Value,((oc=ex∧zl=ex∧so=.slice (some ⟨og,0,none⟩:Option Addr) 0 0)∨(¬ oc=ex∧∃ og2,(some ⟨og,0,none⟩:Option Addr)=some ⟨og2,0,none⟩∧so=.slice (some ⟨og2,ex*3,none⟩) (zl-ex) (oc-ex)))∧∀ W',Below W6.heap.size W6 W'→zD W' so ((ZB.map (·.1)).drop ex):=by
      rcases r3 with ⟨h1,h2,h3⟩ | ⟨h1,g,h2,h3⟩
      ·exact ⟨_,Or.inl ⟨h1,h2,rfl⟩,fun W' _=>by rw [h3];exact zDt W' (some ⟨og,0,none⟩:Option Addr) 3⟩
      ·exact ⟨_,Or.inr ⟨h1,g,h2,rfl⟩,h3⟩
     have hn:∃ sn:Value,((nc=ex∧zl=ex∧sn=.slice na 0 0)∨(¬ nc=ex∧∃ ng,na=some ⟨ng,0,none⟩∧sn=.slice (some ⟨ng,ex,none⟩) (zl-ex) (nc-ex)))∧∀ W',Below W6.heap.size W6 W'→zI W' sn .i64 ((ZB.map (·.2)).drop ex):=by
      rcases r6 with ⟨h1,h2,h3⟩ | ⟨h1,g,h2,h3⟩
      ·exact ⟨_,Or.inl ⟨h1,h2,rfl⟩,fun W' _=>by rw [h3];exact zDt W' na 1⟩
      ·exact ⟨_,Or.inr ⟨h1,g,h2,rfl⟩,h3⟩
     obtain ⟨so,hso,q5⟩:=ho
     obtain ⟨sn,hsn,q6⟩:=hn
     obtain ⟨v3,w9,hap3,n3⟩:=n2.moreO (q5 w8 n2.b) (by simp;omega) (by rw [List.length_drop];omega)
     have n4:=n3.freshN
     obtain ⟨v5,w10,hap5,n5⟩:=n4.moreN (r4.below n4.b) (by simp) (by rw [List.length_take];omega)
     obtain ⟨v6,w11,hap6,n6⟩:=n5.moreN (HBR.out w10 (HAB.out.trans (Above.of_below (zB HB56.out n5.b)))) (by simp;omega) (by rw [List.length_map];omega)
     obtain ⟨v7,w12,hap7,n7⟩:=n6.moreN (q6 w11 n6.b) (by simp;omega) (by rw [List.length_drop];omega)
     have c7:=((HX5.out.keep (zB HB56.out ((Below.refl _ _).alloc (Nat.le_refl _) (.cells #[] 38)))).cells).2.1
     have c9:=((HX5.out.keep (zB HB56.out n4.b)).cells).2.1
     have HAP1:=Hd hap1
     have HAP2:=Hd hap2
     have HAP3:=Hd hap3
     have HAP5:=Hd hap5
     have HAP6:=Hd hap6
     have HAP7:=Hd hap7
     have HX:Hid (r3Rel rs l P wr v3 v7 (.int .i64 ((k:Int)-1)) w12):=Hd ⟨k,rfl,by omega,by
      have h:=n7.base (B':=wr.heap.size) (v0:=wr) (Nat.le_trans HT5.out.B HB56.out.size) (HT5.out.b.trans ((HB56.out.mono HT5.out.B).trans (n7.b.mono (Nat.le_trans HT5.out.B HB56.out.size))))
      rw [List.nil_append,List.nil_append,← List.map_take,← List.map_take,← List.map_drop,← List.map_drop,← List.map_append,← List.map_append,← List.map_append,← List.map_append,List.append_assoc] at h
      rw [HSTEP.out]
      exact h⟩
     clear hap1 hap2 hap3 hap5 hap6 hap7 n1 n2 n3 n4 n5 n6 n7 N0 T6 r1 r3 r4 r6 q5 q6 hlA hlF
     rcases hso with ⟨hs1,hs2,hs3⟩ | ⟨hs1,og2,hs2,hs3⟩ <;> rcases hsn with ⟨hs4,hs5,hs6⟩ | ⟨hs4,ng,hs5,hs6⟩
     all_goals
      as_aux_lemma =>
      subst hs3 hs6
      (try subst hs1)
      (try subst hs4)
      (try subst hs2)
      (try (simp only [Option.some.injEq,Addr.mk.injEq,and_true] at hs2;subst hs2))
      (try subst hs5)
      (try rw [Nat.sub_self] at HAP3)
      (try rw [Nat.sub_self] at HAP7)
      go_upto_region 38 with (at_builtin;refine zF rfl _ _ _ _ HAP1.out rfl rfl rfl rfl ?_)
      clear c7
      go_upto_region 39 with (at_builtin;refine zF rfl _ _ _ _ HAP2.out rfl rfl rfl rfl ?_)
      go_upto_region 40 with (at_builtin;refine zF rfl _ _ _ _ HAP3.out rfl rfl rfl rfl ?_)
      go_upto_region 41 with (at_builtin;refine zF rfl _ _ _ _ HAP5.out rfl rfl rfl rfl ?_)
      clear c9
      go_upto_region 42 with (at_builtin;refine zF rfl _ _ _ _ HAP6.out rfl rfl rfl rfl ?_)
      go_upto_region 43 with (at_builtin;refine zF rfl _ _ _ _ HAP7.out rfl rfl rfl rfl ?_)
      go_wp2_with fail
      exact ⟨HX.out,by simp only [intOf];omega⟩
  have hqm:=List.getElem_mem hlt
  have hbr:=HP.out.E _ hqm
  have hbl:=HSP.out _ hqm
  have HTK:=Hd (zIn P hlt)
  have he1:=HE.out
  rw [List.drop_eq_getElem_cons hlt,List.map_cons] at he1
  obtain ⟨pb,po,rfl,_,hpc⟩:=HP.out.at HB.out (show 0<P.length by omega)
  obtain ⟨p0,p1,p2⟩:=hpc n hlt
  have CMq:=Hd (fun k x h W hb=>CM.out _ hqm k x h W hb)
  have CRq:=Hd (fun k hk hz W hb=>CR.out k hk hz _ hqm W hb)
  have CKq:=Hd (fun k hk hz ht W hb=>CK.out k hk hz _ hqm ht W hb)
  clear hpc hqm
  generalize P[n]=q at *
  obtain ⟨⟨pn,px,bs⟩,vb⟩:=q
  simp only [] at p0 p1 p2 hbl he1 hbr CRq CKq
  obtain ⟨ab,cb,rfl,hcb⟩:=Row.shape hbr
  have hn0:(0:Int)≤(n:Int):=by omega
  have hnl:(n:Int)<P.length:=by omega
  have hnc:(n:Int)<cp:=by omega
  have hwn:IntKind.i64.wrap ((n:Int)+1)=(n:Int)+1:=wI (by omega)
  have HX2:Hid (MtK (wr.alloc (.cells #[.int .i64 pn,.int .i64 px,.slice ab bs.length cb] 47)) wr.heap.size pn px (.slice ab bs.length cb)):=Hd (heap_alloc_new _ _)
  have HB2:=Hd (HB.out.alloc HB.out.size (.cells #[.int .i64 pn,.int .i64 px,.slice ab bs.length cb] 47))
  have HE1:=Hd he1
  clear he1 hbr HE
  go_upto_region 10 with (fail)
  clear p0 p1 p2
  generalize wr.alloc (.cells #[.int .i64 pn,.int .i64 px,.slice ab bs.length cb] 47)=W2 at *
  generalize wr.heap.size=gx at *
  have HBD:=Hd (HB2.out.drew)
  by_cases hbad:pn<0∨(rs.length:Int)≤pn∨px<(free:Int)∨(l.length:Int)≤px
  case pos =>
   as_aux_lemma =>
   have HX:=Hd (HE0.out 1 W2.drew (by rw [HE1.out];exact zOy (by rw [List.length_map];exact hbad)) (by decide) HBD.out)
   have hc:pn<0∨(¬ pn<0∧(rs.length:Int)≤pn)∨(¬ pn<0∧¬ (rs.length:Int)≤pn∧px<(free:Int))∨(¬ pn<0∧¬ (rs.length:Int)≤pn∧¬ px<(free:Int)∧(l.length:Int)≤px):=by omega
   clear hbad
   rcases hc with h1 | ⟨h1,h2⟩ | ⟨h1,h2,h3⟩ | ⟨h1,h2,h3,h4⟩
   all_goals
    as_aux_lemma =>
    (try have d1:decide (pn<0)=true:=decide_eq_true h1)
    (try have d1:decide (pn<0)=false:=decide_eq_false h1)
    (try have d2:decide ((rs.length:Int)≤pn)=true:=decide_eq_true h2)
    (try have d2:decide ((rs.length:Int)≤pn)=false:=decide_eq_false h2)
    (try have d3:decide (px<(free:Int))=true:=decide_eq_true h3)
    (try have d3:decide (px<(free:Int))=false:=decide_eq_false h3)
    (try have d4:decide ((l.length:Int)≤px)=true:=decide_eq_true h4)
    clear h1
    (try clear h2)
    (try clear h3)
    (try clear h4)
    obtain ⟨m0,m1,m2⟩:=HX2.out.cells
    obtain ⟨m3,m4,m5⟩:=(HX2.out.keep (Below.refl _ _).drew).cells
    go_still_tail 32,(by kernel_rfl)
    go_wp2_with fail
    exact HX.out
  as_aux_lemma =>
  obtain ⟨rk,rfl⟩:∃ rk:Nat,pn=(rk:Int):=⟨pn.toNat,by omega⟩
  obtain ⟨x,rfl⟩:∃ x:Nat,px=(x:Int):=⟨px.toNat,by omega⟩
  have hrk:rk<rs.length:=by omega
  have hxl:x<l.length:=by omega
  have hz:=HRZ.out rk hrk
  have hE2:=HE1.out.trans (zOz hbad hrk rfl)
  obtain ⟨rb,ro,rfl,_,_,_,_⟩:=HR.out.at HB.out (show 0<rs.length by omega)
  have HRC:Hid (∀ W,Below w.heap.size w W→W.cell? ⟨rb,ro+rk*5,none⟩=some (.string rs[rk].1.nm)∧W.cell? ⟨rb,ro+rk*5+1,none⟩=some (.int .u8 (rs[rk].1.goal:Int))∧W.cell? ⟨rb,ro+rk*5+2,none⟩=some rs[rk].2.1∧W.cell? ⟨rb,ro+rk*5+3,none⟩=some rs[rk].2.2.1∧W.cell? ⟨rb,ro+rk*5+4,none⟩=some rs[rk].2.2.2):=Hd fun W hb=>by
   obtain ⟨b2,o2,e',_,_,_,h⟩:=HR.out.at hb (show 0<rs.length by omega)
   simp only [Option.some.injEq,Addr.mk.injEq,and_true] at e'
   obtain ⟨rfl,rfl⟩:=e'
   exact h rk hrk
  have CRx:=Hd (fun W hb=>CRq.out rk hrk hz W hb)
  have CKx:=Hd (fun ht W hb=>CKq.out rk hrk hz ht W hb)
  have HPK:Hid (rightB rs[rk].1 l bs=true→(outP rs[rk].1 l bs).length≤131072→∃ k y,PkOK rs l (((rk:Int),(x:Int),bs),.slice ab bs.length cb) k y):=Hd fun h1 h2=>⟨rk,x,⟨hrk,rfl,rfl,hxl,hz,h1,h2⟩⟩
  have HTP:Hid (rightB rs[rk].1 l bs=true→0≤xX rs[rk].1 l bs∧xX rs[rk].1 l bs≤(outP rs[rk].1 l bs).length):=Hd fun h=>zCj hz h (vT h)
  have HE2:=Hd hE2
  have hxf:¬ (x:Int)<(free:Int):=by omega
  have d1:decide ((rk:Int)<0)=false:=decide_eq_false (by omega)
  have d2:decide ((rs.length:Int)≤(rk:Int))=false:=decide_eq_false (by omega)
  have d3:decide ((x:Int)<(free:Int))=false:=decide_eq_false hxf
  have d4:decide ((l.length:Int)≤(x:Int))=false:=decide_eq_false (by omega)
  have e2:decide (rs.length≤rk)=false:=decide_eq_false (by omega)
  have e3:decide (x<free)=false:=decide_eq_false (by omega)
  have e4:decide (l.length≤x)=false:=decide_eq_false (by omega)
  clear CRq CKq CMq hz hE2 hbad HE1
  generalize rs[rk]=X at *
  obtain ⟨r,vh,vf,vy⟩:=X
  simp only [] at HRC CRx CKx HPK HE2 HTP
  unfold ruleAgg at CRx CKx
  have hr0:(0:Int)≤(rk:Int):=by omega
  have hrl:(rk:Int)<rs.length:=by omega
  have hrc:(rk:Int)<cr:=by omega
  have HS:Hid (∀ W,Below W2.heap.size W2 W→(fun W=>W.cell? ⟨gx,0,none⟩=some (.int .i64 (rk:Int))∧W.cell? ⟨gx,1,none⟩=some (.int .i64 (x:Int))∧W.cell? ⟨gx,2,none⟩=some (.slice ab bs.length cb)∧W.cell? ⟨rb,ro+rk*5,none⟩=some (.string r.nm)∧W.cell? ⟨rb,ro+rk*5+1,none⟩=some (.int .u8 (r.goal:Int))∧W.cell? ⟨rb,ro+rk*5+2,none⟩=some vh∧W.cell? ⟨rb,ro+rk*5+3,none⟩=some vf∧W.cell? ⟨rb,ro+rk*5+4,none⟩=some vy) W):=Hd fun W hb=>by
   obtain ⟨x0,x1,x2⟩:=(HX2.out.keep hb).cells
   exact ⟨x0,x1,x2,HRC.out W (zB HB2.out hb)⟩
  have HD2:=Hd ((Below.refl W2.heap.size W2).drew)
  go_region_held3 (fun W=>W.cell? ⟨gx,0,none⟩=some (.int .i64 (rk:Int))∧W.cell? ⟨gx,1,none⟩=some (.int .i64 (x:Int))∧W.cell? ⟨gx,2,none⟩=some (.slice ab bs.length cb)∧W.cell? ⟨rb,ro+rk*5,none⟩=some (.string r.nm)∧W.cell? ⟨rb,ro+rk*5+1,none⟩=some (.int .u8 (r.goal:Int))∧W.cell? ⟨rb,ro+rk*5+2,none⟩=some vh∧W.cell? ⟨rb,ro+rk*5+3,none⟩=some vf∧W.cell? ⟨rb,ro+rk*5+4,none⟩=some vy) (first | exact HS.out _ HD2.out | exact HS.out _ HB5.out) ((go_at_call 24;(with_reducible refine (CRx.out _ HBD.out).mono ?_);rintro e w5 ⟨rfl,hb5⟩;have HB5:=Hd (zB HD2.out hb5);clear hb5;(try dsimp only)))
  have HBW5:=Hd (zB HB2.out HB5.out)
  cases hrt:rightB r l bs with
  | false =>
   have HX:=Hd (HE0.out 1 w5 (by rw [HE2.out,if_pos hrt]) (by decide) HBW5.out)
   clear hrt
   go_wp2_with fail
   exact HX.out
  | true =>
  have HRT:=Hd hrt
  have hE3:=HE2.out
  rw [if_neg (by rw [hrt];decide)] at hE3
  have CKy:=Hd (fun W hb=>CKx.out hrt W hb)
  have htb:=HTP.out hrt
  clear hrt CKx CRx HE2 d1 d2 d3 d4 e2 e3 e4
  have HD5:=Hd (zB HB5.out (Below.refl w5.heap.size w5).drew)
  have HBD5:=Hd (zB HB2.out HD5.out)
  go_upto_region 12 with (fail)
  as_aux_lemma =>
  by_cases hlong:131072<(outP r l bs).length
  case pos =>
   have CK1:Hid (Calls Tryz.prog 25 #[.agg #[.string r.nm,.int .u8 (r.goal:Int),vh,vf,vy],.slice al l.length cl,.slice ab bs.length cb] w5.drew fun e w'=>e=.returned (.tuple #[.slice none 0 0,.slice none 0 0,.bool false])∧Below w5.drew.heap.size w5.drew w'):=Hd ((CKy.out _ HBD5.out).mono fun e w' h=>by
    unfold makesPost at h
    rw [if_pos hlong] at h
    exact ⟨h.2,h.1⟩)
   have HX0:=Hd (HE0.out 2 · (by rw [hE3,if_pos hlong]) (by decide) ·)
   clear hlong hE3 htb
   go_region_held3 (fun W=>W.cell? ⟨gx,0,none⟩=some (.int .i64 (rk:Int))∧W.cell? ⟨gx,1,none⟩=some (.int .i64 (x:Int))∧W.cell? ⟨gx,2,none⟩=some (.slice ab bs.length cb)∧W.cell? ⟨rb,ro+rk*5,none⟩=some (.string r.nm)∧W.cell? ⟨rb,ro+rk*5+1,none⟩=some (.int .u8 (r.goal:Int))∧W.cell? ⟨rb,ro+rk*5+2,none⟩=some vh∧W.cell? ⟨rb,ro+rk*5+3,none⟩=some vf∧W.cell? ⟨rb,ro+rk*5+4,none⟩=some vy) (first | exact HS.out _ HD5.out | exact HS.out _ HB7.out) ((go_at_call 25;(with_reducible refine CK1.out.mono ?_);rintro e w7 ⟨rfl,hb7⟩;have HB7:=Hd (zB HD5.out hb7);clear hb7;(try dsimp only)))
   have HX:=Hd (HX0.out w7 (zB HB2.out HB7.out))
   go_wp2_with fail
   exact HX.out
  rw [if_neg hlong] at hE3
  have CK1:Hid (Calls Tryz.prog 25 #[.agg #[.string r.nm,.int .u8 (r.goal:Int),vh,vf,vy],.slice al l.length cl,.slice ab bs.length cb] w5.drew (madeOK (outP r l bs) w5.drew)):=Hd ((CKy.out _ HBD5.out).mono fun e w' h=>by
   unfold makesPost at h
   rw [if_neg hlong] at h
   obtain ⟨h1,ov,nv,h2,h3,h4⟩:=h
   unfold madeOK
   exact ⟨ov,nv,h2,h1,h3,h4⟩)
  have HPK2:=Hd (HPK.out HRT.out (by omega))
  have hol:(outP r l bs).length≤131072:=by omega
  have HE3:=Hd hE3
  have hge:=zN (zK HW.out) hxl
  obtain ⟨tz,htz⟩:∃ tz,xX r l bs=tz:=⟨_,rfl⟩
  have HTZ:Hid (yT ((outP r l bs).map (·.1))=tz):=Hd htz
  rw [htz] at HE3 htb
  clear hlong hE3 htz CKy HPK
  generalize outP r l bs=oz at *
  go_region_held3 (fun W=>W.cell? ⟨gx,0,none⟩=some (.int .i64 (rk:Int))∧W.cell? ⟨gx,1,none⟩=some (.int .i64 (x:Int))∧W.cell? ⟨gx,2,none⟩=some (.slice ab bs.length cb)∧W.cell? ⟨rb,ro+rk*5,none⟩=some (.string r.nm)∧W.cell? ⟨rb,ro+rk*5+1,none⟩=some (.int .u8 (r.goal:Int))∧W.cell? ⟨rb,ro+rk*5+2,none⟩=some vh∧W.cell? ⟨rb,ro+rk*5+3,none⟩=some vf∧W.cell? ⟨rb,ro+rk*5+4,none⟩=some vy) (first | exact HS.out _ HD5.out | exact HS.out _ HB7.out) ((go_at_call 25;(with_reducible refine CK1.out.mono ?_);intro e w7 h7;unfold madeOK at h7;obtain ⟨ov,nv,rfl,hb7,ho7,-⟩:=h7;have HB7:=Hd (zB HD5.out hb7);have HO7:=Hd (ho7 w7 (Above.refl _ _));clear hb7 ho7;(try dsimp only)))
  have HBW7:=Hd (zB HB2.out HB7.out)
  have CT:=Hd (fN (oz.map (·.1)) (by rw [List.length_map];omega) ov w7 HO7.out)
  rw [HTZ.out] at CT
  have CEx:=Hd (CE.out HW.out x hxl w7 HBW7.out)
  have CUx:=Hd (CUP.out HW.out x hxl w7 HBW7.out)
  obtain ⟨oa,oc,rfl,hoc⟩:=zD.slice HO7.out
  rw [List.length_map] at hoc CT ⊢
  obtain ⟨x0,x1,x2⟩:=(HX2.out.keep HB7.out).cells
  have HREL:Hid (¬ (tz≠1∧((x:Int)=0∨kindU l (upN l x)≠13))→rsRel rs l P w (.int .i64 (zC l x:Int)) (.int .i64 (size+(oz.length:Int)-((zC l x:Int)-(x:Int)))) (.int .i64 ((n:Int)+1)) w7):=Hd fun hc=>by
   have h4:=HE3.out
   rw [if_neg (by simpa using hc),Int.toNat_natCast] at h4
   refine ⟨n+1,zC l x,_,by push_cast;rfl,rfl,rfl,hlt,hge.2,h4,by push_cast;omega,by push_cast;omega,fun p hp=>?_,HBW7.out⟩
   rw [HTK.out] at hp
   rcases List.mem_append.1 hp with hp | hp
   ·exact HOK.out p hp
   ·rw [List.mem_singleton.1 hp];exact HPK2.out
  have HBAD:Hid (tz≠1∧((x:Int)=0∨kindU l (upN l x)≠13)→Q (.returned (.tuple #[.slice none 0 0,.slice none 0 0,.int .i64 12])) w7):=Hd fun hc=>HE0.out 12 w7 (by rw [HE3.out,if_pos (by simpa using hc)]) (by decide) HBW7.out
  have HUP:Hid (0<x→0≤upN l x∧upN l x<(x:Int)):=Hd fun h=>⟨zCu HW.out hxl x h,zDz l x⟩
  have HCU:Hid (Calls Tryz.prog 27 #[.slice al l.length cl,.int .i64 (x:Int)] w7 fun e w'=>e=.returned (.int .i64 (upN l x))∧w7=w'):=CUx
  have hwa:IntKind.i64.wrap (size+(oz.length:Int))=size+(oz.length:Int):=wI (by omega)
  have hwb:IntKind.i64.wrap ((zC l x:Int)-(x:Int))=(zC l x:Int)-(x:Int):=wI (by omega)
  have hwc:IntKind.i64.wrap (size+(oz.length:Int)-((zC l x:Int)-(x:Int)))=size+(oz.length:Int)-((zC l x:Int)-(x:Int)):=wI (by omega)
  clear CK1 HTZ HO7 HS HE3 HPK2 CUx htb hge
  generalize zC l x=ex at *
  by_cases hk1:tz=1
  ·have HX:=Hd (HREL.out (fun h=>h.1 hk1))
   subst hk1
   clear HREL HBAD HUP
   go_wp2_with fail
   refine CT.out.mono ?_
   rintro e _ ⟨rfl,rfl⟩
   go_wp2_with fail
   refine CEx.out.mono ?_
   rintro e _ ⟨rfl,rfl⟩
   go_wp2_with fail
   exact ⟨HX.out,by simp only [intOf];omega⟩
  have q1:(tz != 1)=true:=by rw [bne_iff_ne];exact hk1
  have q2:(tz == 1)=false:=by rw [beq_eq_false_iff_ne];exact hk1
  by_cases hx0:x=0
  ·have HX:=Hd (HBAD.out ⟨hk1,Or.inl (by omega)⟩)
   subst hx0
   clear HREL HBAD HUP hk1
   go_wp2_with fail
   refine CT.out.mono ?_
   rintro e _ ⟨rfl,rfl⟩
   go_wp2_with fail
   exact HX.out
  have hup:=HUP.out (by omega)
  obtain ⟨u,hu⟩:∃ u:Nat,upN l x=(u:Int):=⟨(upN l x).toNat,by omega⟩
  rw [hu] at hup HCU HREL HBAD
  have hul:u<l.length:=by omega
  rw [zXu hul] at HREL HBAD
  obtain ⟨lb,lo,rfl,_,_,_,hlc⟩:=HLR.out.at HBW7.out (show 0<l.length by omega)
  have l0:=(hlc u hul).1
  have hu0:(0:Int)≤(u:Int):=by omega
  have hul2:(u:Int)<l.length:=by omega
  have hulc:(u:Int)<cl:=by omega
  have q3:((x:Int) == 0)=false:=by rw [beq_eq_false_iff_ne];omega
  clear hlc hu HUP hup
  generalize (l[u]).1=ku at *
  by_cases h13:ku=13
  ·subst h13
   have HX:=Hd (HREL.out (fun h=>h.2.elim (fun g=>hx0 (by omega)) (fun g=>g rfl)))
   clear HREL HBAD hk1 hx0
   go_wp2_with fail
   refine CT.out.mono ?_
   rintro e _ ⟨rfl,rfl⟩
   go_wp2_with fail
   refine HCU.out.mono ?_
   rintro e _ ⟨rfl,rfl⟩
   go_wp2_with fail
   refine CEx.out.mono ?_
   rintro e _ ⟨rfl,rfl⟩
   go_wp2_with fail
   exact ⟨HX.out,by simp only [intOf];omega⟩
  ·have HX:=Hd (HBAD.out ⟨hk1,Or.inr (by omega)⟩)
   have q4:((ku:Int) != 13)=true:=by rw [bne_iff_ne];omega
   clear HREL HBAD hk1 hx0 h13
   go_wp2_with fail
   refine CT.out.mono ?_
   rintro e _ ⟨rfl,rfl⟩
   go_wp2_with fail
   refine HCU.out.mono ?_
   rintro e _ ⟨rfl,rfl⟩
   go_wp2_with fail
   exact HX.out
end Go.Proofs.YtfalelkfhandfaaGreatDoor
