/- Layer 20: the maker's closure where no hole stands, and the closure whole. -/
import Derived.Test.YtfalelkfhandfaaGreatDoorPackMs
import Derived.Test.YtfalelkfhandfaaGreatDoorMakMMs
import Derived.Test.YtfalelkfhandfaaGreatDoorMakTMs
import Derived.Test.YtfalelkfhandfaaGreatDoorTreesFMs
import Derived.Test.YtfalelkfhandfaaGreatDoorMakHMs
import Derived.Test.YtfalelkfhandfaaGreatDoorTermMs
import Derived.Test.YtfalelkfhandfaaGreatDoorKpMMs
import Derived.Test.YtfalelkfhandfaaGreatDoorQuoted6Ms
namespace Go.Proofs.YtfalelkfhandfaaGreatDoor
set_option maxRecDepth 100000
set_option maxHeartbeats 32000000
set_option linter.all false
attribute [local irreducible] Calls
attribute [local irreducible] wpStill
open Go.RowKit

theorem KpC.setO {g:Nat} {ov nv ov' nv':Value} {W W':World} (h:KpC g ov nv ov' nv' W W') {b:Nat} (hb:ov'.ownBlock=some b) (j:Nat) (u:Value):KpC g ov nv ov' nv' W (W'.setCell ⟨b,j,none⟩ u) :=
 ⟨h.os,h.tape,h.output,by have:=h.size;simpa using this,fun k h1 h2 h3 h4=>by
  rw [heap_setCell_other _ _ _ _ (show k≠b from fun e=>by
   subst e
   rcases h.no k hb with e | e
   ·exact h3 e
   ·omega)]
  exact h.low k h1 h2 h3 h4,h.no,h.nn⟩
theorem zFc (A B:List Prt) (k:Nat) (n m:Int) (s:ByteArray):(zV (A++(k,n,s)::B)).set (A.length*3+1) (.int .i64 m)=zV (A++(k,m,s)::B):=by
 rw [yK,yK,List.set_append_right _ _ (by rw [yF];omega),yF,show A.length*3+1-A.length*3=1 by omega]
 rfl
theorem zDc (A B:List Prt) (k:Nat) (n:Int) (s:ByteArray):(zV (A++(k,n,s)::B))[A.length*3+1]?=some (.int .i64 n):=by
 rw [yK,List.getElem?_append_right (by rw [yF];omega),yF,show A.length*3+1-A.length*3=1 by omega]
 rfl
theorem MkIn.kids {w0 W:World} {E:MkE} {A B:List PN} {k:Nat} {n:Int} {s:ByteArray} {z:Int} {lg:Bool} {g c:Nat} {fv:Value} (h:MkIn w0 E (A++((k,n,s),z)::B) lg (.slice (some ⟨g,0,none⟩) (A++((k,n,s),z)::B).length c) fv W) (m:Int) :
  W.cell? ⟨g,A.length*3+1,none⟩=some (.int .i64 n)∧W.frozen? ⟨g,A.length*3+1,none⟩=false∧MkIn w0 E (A++((k,m,s),z)::B) lg (.slice (some ⟨g,0,none⟩) (A++((k,n,s),z)::B).length c) fv (W.setCell ⟨g,A.length*3+1,none⟩ (.int .i64 m)):=by
 have ho:=h.o
 have hl:(A++((k,n,s),z)::B).length=A.length+B.length+1:=by rw [List.length_append,List.length_cons];omega
 have hl2:(A++((k,m,s),z)::B).length=A.length+B.length+1:=by rw [List.length_append,List.length_cons];omega
 have hc:W.cell? ⟨g,A.length*3+1,none⟩=some (.int .i64 n):=by
  rw [ho.cellAt _ (by omega),List.map_append,List.map_cons]
  have:=zDc (A.map (·.1)) (B.map (·.1)) k n s
  rwa [List.length_map] at this
 have hg:=ho.lt g rfl
 have hgB:=h.gB
 have hg0:=h.g0
 have hz:W.frozen? ⟨g,A.length*3+1,none⟩=false:=by
  rcases ho.2 with ⟨hv,_⟩ | ⟨g',c',cur,hv,_,hh,_⟩
  ·cases hv
  ·simp only [Value.slice.injEq,Option.some.injEq,Addr.mk.injEq,and_true] at hv
   obtain ⟨rfl,_⟩:=hv
   simp [World.frozen?,hh]
 have o2:=zCv ho (A.length*3+1) (by rw [yF,List.length_map];omega) (.int .i64 m)
 rw [List.map_append,List.map_cons] at o2
 have e2:=zFc (A.map (·.1)) (B.map (·.1)) k n m s
 rw [List.length_map] at e2
 rw [e2] at o2
 refine ⟨hc,hz,⟨h.b.setCell (p:=⟨g,_,none⟩) (by show _≤g;omega) _,?_,?_,?_,h.g0,h.gB,by simpa using h.B⟩⟩
 ·unfold mkB
  rw [heap_setCell_other _ _ _ _ (show E.g≠g by omega)];exact h.s
 ·rw [List.map_append,List.map_cons,hl2]
  rwa [hl] at o2 ⊢
 ·have hf:=h.f
  have e3:(A++((k,n,s),z)::B).map (·.2)=(A++((k,m,s),z)::B).map (·.2):=by rw [List.map_append,List.map_append];rfl
  rw [e3,hl] at hf
  rw [hl2]
  exact ownsRow_setCell_other hf (a:=⟨g,A.length*3+1,none⟩) (zFv ho h.f (by decide) rfl) _
def wnRel (w0:World) (E:MkE) (n q:Nat) (kp:Nat→Nat) (pend:Nat) (x0:PN) (MK:List PN) (out:List PN) (lg:Bool) (ov fv:Value) (W:World) (nv kv:Value) (wr:World):Prop :=
 ∃ (c N:Nat) (M:List PN) (us:List Nat) (out':List PN) (lg':Bool) (ov' fv':Value),nv=.int .i64 (us.length:Int)∧kv=.int .i64 (kp c:Int)∧c≤q∧M++mKids E.r.by' E.l E.r.holes (bOf E.bs) N (kp c) pend=MK∧2*(pend-kp c)+1≤N∧N≤n∧zG (M.map (·.1))=some us∧mkGo out lg (x0::M) out' lg'∧out'.length≤131073∧MkIn w0 E out' lg' ov' fv' wr∧KpC E.g ov fv ov' fv' W wr
theorem zZn (w0:World) (E:MkE) (F:MkF w0 E) (gm gy gw:Nat) (vy:Value) (n:Nat) (ih:∀ m,m<n+1→WalkC w0 E gm gy gw vy m) (W:World) (out:List PN) (lg:Bool) (ov fv:Value) (p:Nat) (hi:MkIn w0 E out lg ov fv W) (hw:WkS E gm gy gw vy W) (hn:out.length≤131073) (hp:p<E.r.by'.length) (hfuel:2*(zC E.r.by' p-p)≤n+1) (hlen:(mkM E (n+1) p).length≤2000000000000) (ho:zW E.r.by' E.r.holes p=none) :
  Calls Tryz.prog 39 #[.int .i64 (p:Int),.pointer (some ⟨gm,0,none⟩),.pointer (some ⟨gy,0,none⟩),.pointer (some ⟨gw,0,none⟩)] W (mkPost w0 E out lg ov fv (mkM E (n+1) p) W fun u=>u=.int .i64 (cntP ((mkM E (n+1) p).map (·.1)):Int)):=by
 have hone:=zSw (t:=E.r.by') (hs:=E.r.holes) (zBg (jK F.rt)) (vT F.rt) (n:=n) ho hp
 obtain ⟨MK,hMK⟩:∃ MK,mKids E.r.by' E.l E.r.holes (bOf E.bs) n (p+1) (zC E.r.by' p)=MK:=⟨_,rfl⟩
 have hmk:mkM E (n+1) p=(((E.r.by'[p]).1,(cntP (MK.map (·.1)):Int),(E.r.by'[p]).2.2),-1)::MK:=by rw [← hMK];exact zCz ho hp
 rw [show cntP ((mkM E (n+1) p).map (·.1))=1 from hone]
 rw [hmk] at hlen ⊢
 have HBY:=(kV F.rz).2.1
 obtain ⟨q,kp,KS⟩:=zMq (zK HBY.well) hp
 have hyl:=F.sr.b.1
 have hgf:=zN (zK HBY.well) hp
 have HYES:Hid (∀ w' out' lg' ov' fv',mkGo out lg ((((E.r.by'[p]).1,(cntP (MK.map (·.1)):Int),(E.r.by'[p]).2.2),-1)::MK) out' lg'→out'.length≤131073→MkIn w0 E out' lg' ov' fv' w'→KpC E.g ov fv ov' fv' W w'→mkPost w0 E out lg ov fv ((((E.r.by'[p]).1,(cntP (MK.map (·.1)):Int),(E.r.by'[p]).2.2),-1)::MK) W (fun u=>u=.int .i64 ((1:Nat):Int)) (.returned (.int .i64 1)) w'):=Hd fun w' out' lg' ov' fv' h1 h2 h3 h4=>by
  unfold mkPost;exact ⟨out',lg',ov',fv',_,rfl,rfl,h1,h2,h3,h4⟩
 have C1:=Hd (zRq w0 E F out lg ov fv W hi p hp)
 have CP:=Hd (fun W out lg ov fv (hi:MkIn w0 E out lg ov fv W) hn p nf=>zVx w0 E out lg ov fv W hi hn p nf)
 obtain ⟨ya,yc,hvy,hyc⟩:=F.Y.slice
 have HYR:Hid (zD w0 (.slice ya E.r.by'.length yc) E.r.by'):=Hd (hvy ▸ F.Y)
 obtain ⟨va,vc,rfl,hvc,hvo⟩:=hw.r.open'
 obtain ⟨eb,eo,rfl,_,_⟩:=hvo (by rw [xJ];omega)
 clear hvo
 rw [xJ] at hvc
 obtain ⟨oa,oc,rfl,hoc⟩:=Row.shape (Row.of_owns hi.o)
 have hcm:=hw.cells.1
 have HI:=Hd hi
 have HWK:=Hd hw
 have HIH:=Hd ih
 have HKS:=Hd KS
 have HMK:=Hd hMK
 have HFU:=Hd hfuel
 have HLN:=Hd hlen
 have HRB:=Hd (zBg (jK F.rt))
 have HRV:=Hd (vT F.rt)
 have hqn:=KS.n
 generalize mkPost w0 E out lg (.slice oa out.length oc) fv ((((E.r.by'[p]).1,(cntP (MK.map (·.1)):Int),(E.r.by'[p]).2.2),-1)::MK) W (fun u=>u=.int .i64 ((1:Nat):Int))=Q at *
 clear hi hw F ih KS hMK hfuel hlen hone hmk
 go_enter Tryz.func39,Tryz.ntmps39
 go_wp2_with fail
 refine C1.out.mono ?_
 intro e w1 h1
 unfold mkHolePost at h1
 rw [ho] at h1
 obtain ⟨hb1,rfl⟩:=h1
 unfold bindA
 clear hcm C1
 have HB2:Hid (Below W.heap.size W (w1.alloc (.cells #[.string ⟨#[]⟩,.int .i64 0,.int .i64 0] 52))):=Hd (hb1.alloc hb1.size _)
 clear hb1
 go_upto_region 9 with (fail)
 generalize w1.alloc (.cells #[.string ⟨#[]⟩,.int .i64 0,.int .i64 0] 52)=W2 at *
 have HI2:=Hd (HI.out.below HB2.out)
 have HW2:=Hd (HWK.out.below HB2.out)
 obtain ⟨m0,m1,m2⟩:=HW2.out.cells
 obtain ⟨c0,c1,c2,c3,c4,c5,c6,c7,c8,c9,c10,cz⟩:=HI2.out.s.cells
 clear c0 c1 c2 c3 c4 c5 c6 c7 c9 c10 cz m1 m2
 obtain ⟨yb,yo,rfl,y1,y2,y3,y4⟩:=HYR.out.at HI2.out.b (show 0<E.r.by'.length by omega)
 clear y1 y2 y3 y4
 have HYC:Hid (∀ W',Below w0.heap.size w0 W'→W'.cell? ⟨yb,yo+p*3,none⟩=some (.int .u8 ((E.r.by'[p]).1:Int))∧W'.cell? ⟨yb,yo+p*3+1,none⟩=some (.int .i64 (E.r.by'[p]).2.1)∧W'.cell? ⟨yb,yo+p*3+2,none⟩=some (.string (E.r.by'[p]).2.2)):=Hd fun W' hb=>by
  obtain ⟨b2,o2,e',_,_,_,hcc⟩:=HYR.out.at hb (show 0<E.r.by'.length by omega)
  simp only [Option.some.injEq,Addr.mk.injEq,and_true] at e'
  obtain ⟨rfl,rfl⟩:=e'
  exact hcc p hp
 have HBS:Hid (∀ W' o2 l2 v2 f2,MkIn w0 E o2 l2 v2 f2 W'→KpC E.g (.slice oa out.length oc) fv v2 f2 W2.drew W'→(W'.cell? ⟨gm,0,none⟩=some (.pointer (some ⟨E.g,0,none⟩))∧W'.cell? ⟨E.g,4,none⟩=some (.slice (some ⟨yb,yo,none⟩) E.r.by'.length yc)∧W'.cell? ⟨yb,yo+p*3,none⟩=some (.int .u8 ((E.r.by'[p]).1:Int))∧W'.cell? ⟨yb,yo+p*3+1,none⟩=some (.int .i64 (E.r.by'[p]).2.1)∧W'.cell? ⟨yb,yo+p*3+2,none⟩=some (.string (E.r.by'[p]).2.2))):=Hd fun W' o2 l2 v2 f2 h3 h4=>⟨((HW2.out.below (Below.refl _ _).drew).kc (HI2.out.below (Below.refl _ _).drew) h4).cells.1,by rw [h3.s.cells.2.2.2.2.1,hvy],HYC.out W' h3.b⟩
 have CP2:=Hd (CP.out W2.drew out lg _ fv (HI2.out.below (Below.refl _ _).drew) hn E.r.by'[p] (-1))
 have HBS0:=Hd (HBS.out _ _ _ _ _ (HI2.out.below (Below.refl _ _).drew) (KpC.refl _ _ _ _))
 have hp0:(0:Int)≤(p:Int):=by omega
 have hpl:(p:Int)<E.r.by'.length:=by omega
 have hpyc:(p:Int)<yc:=by omega
 have hwp:IntKind.i64.wrap ((p:Int)+1)=(p:Int)+1:=wI (by omega)
 unfold partA at CP2
 clear CP
 generalize hbp:E.r.by'[p]=pp at *
 clear hbp
 obtain ⟨pk,pn,pw⟩:=pp
 simp only [] at HBS CP2 HYES HYC HBS0
 go_upto_region 10 with (fail)
 clear m0 c8
 go_region_held3 (fun W'=>W'.cell? ⟨gm,0,none⟩=some (.pointer (some ⟨E.g,0,none⟩))∧W'.cell? ⟨E.g,4,none⟩=some (.slice (some ⟨yb,yo,none⟩) E.r.by'.length yc)∧W'.cell? ⟨yb,yo+p*3,none⟩=some (.int .u8 (pk:Int))∧W'.cell? ⟨yb,yo+p*3+1,none⟩=some (.int .i64 pn)∧W'.cell? ⟨yb,yo+p*3+2,none⟩=some (.string pw)) (first | exact HBS0.out | exact HB6.out) ((go_at_call 41;(with_reducible refine CP2.out.mono ?_);(intro e w6 h6;obtain ⟨o1,l1,v1,f1,u,rfl,_,hgo1,hol1,hi1,hk1⟩:=h6.out;have HB6:=Hd (HBS.out w6 o1 l1 v1 f1 hi1 hk1);(try dsimp only))))
 have HGO1:=Hd hgo1
 have HI1:=Hd hi1
 have HK1:=Hd (((KpC.of_below HB2.out).trans (KpC.of_below (Below.refl _ _).drew)).trans hk1)
 clear hgo1 hi1 hk1 h6 HB6 HBS HBS0 CP2
 go_wp2_with fail
 go_loopw [12,13] (fun nv kv wr=>wnRel w0 E n q kp (zC E.r.by' p) ((pk,pn,pw),-1) MK out lg (.slice oa out.length oc) fv W nv kv wr) (fun _ kv _=>zC E.r.by' p-(intOf kv).toNat)
 case atStart=>exact ⟨0,n,[],[],o1,l1,v1,f1,rfl,by rw [HKS.out.z];push_cast;rfl,Nat.zero_le _,by rw [HKS.out.z];exact HMK.out,by rw [HKS.out.z];have:=HFU.out;omega,Nat.le_refl _,jC,HGO1.out,hol1,HI1.out,HK1.out⟩
 case round =>
  obtain ⟨c,N,M,us,out',lg',ov',fv',rfl,rfl,hc,hM,hN,hNn,hus,hgo,hol,hii,hkk⟩:=hrel
  have HM:=Hd hM
  have HUS:=Hd hus
  have HN:=Hd hN
  have HNN:=Hd hNn
  have HGO:=Hd hgo
  have HII:=Hd hii
  have HKK:=Hd hkk
  clear hM hN hNn hus hgo hii hkk
  obtain ⟨N,rfl⟩:∃ N',N=N'+1:=⟨N-1,by have:=HN.out;omega⟩
  have HWW:=Hd (HWK.out.kc HI.out HKK.out)
  obtain ⟨m0,m1,m2⟩:=HWW.out.cells
  obtain ⟨eb2,eo2,e',y1,y2,hce⟩:=zAz HWW.out.r (Below.refl _ _) (by rw [xJ];omega)
  simp only [Option.some.injEq,Addr.mk.injEq,and_true] at e'
  obtain ⟨rfl,rfl⟩:=e'
  clear y1 y2
  have cp:=hce _ _ (jB (l:=E.r.by') (j:=p) hp)
  rw [xJ] at m1
  by_cases hlt:c<q
  case neg =>
   obtain rfl:c=q:=by omega
   have hkq:=HKS.out.e
   have hM:=HM.out
   rw [hkq,zVt,List.append_nil] at hM
   have hcn:cntP (MK.map (·.1))=us.length:=by rw [← hM];exact fK HUS.out
   rw [hcn] at HYES
   rw [hM] at HGO
   have hkq':¬ (kp c:Int)<(zC E.r.by' p:Int):=by rw [hkq];omega
   obtain ⟨c0,c1,c2,c3,c4,c5,c6,c7,c8,c9,c10,cz⟩:=HII.out.s.cells
   clear c0 c1 c2 c3 c4 c5 c6 c7 c9 cz hce hM
   cases lg' with
   | true =>
    have HX:=Hd (HYES.out wr out' true ov' fv' (HGO.out.same (by simp)) hol HII.out HKK.out)
    clear c8
    generalize kp c=kc at *
    generalize zC E.r.by' p=ei at *
    go_wp2_with fail
    exact HX.out
   | false =>
    obtain ⟨hlg,hlen2⟩:lg=false∧out.length+(((pk,pn,pw),(-1:Int))::MK).length≤131073:=by
     apply Classical.byContradiction
     intro h
     have:=HGO.out.2 h
     cases this
    obtain ⟨_,rfl⟩:=HGO.out.1 ⟨hlg,hlen2⟩
    obtain ⟨oa2,on2,oc2,hov⟩:=zL HII.out.o
    subst hov
    obtain rfl:on2=(out++((pk,pn,pw),(-1:Int))::MK).length:=by
     obtain ⟨_,_,_,e,_⟩:=Row.of_owns HII.out.o
     simp only [Value.slice.injEq] at e
     exact e.2.1
    obtain ⟨gO,rfl⟩:=xI HII.out.o (by simp;omega)
    have hoc2:(out++((pk,pn,pw),(-1:Int))::MK).length≤oc2:=by
     obtain ⟨_,_,_,e,h,_⟩:=Row.of_owns HII.out.o
     simp only [Value.slice.injEq] at e
     omega
    obtain ⟨k1,k2,k3⟩:=HII.out.kids (us.length:Int)
    have HX:=Hd (HYES.out _ _ _ _ _ ⟨fun _=>⟨rfl,rfl⟩,fun h=>absurd ⟨hlg,by simpa using hlen2⟩ h⟩ (by simpa using hol) k3 (HKK.out.setO rfl (out.length*3+1) (.int .i64 (us.length:Int))))
    have hol1:(out.length:Int)<((out++((pk,pn,pw),(-1:Int))::MK).length:Int):=by rw [List.length_append,List.length_cons];push_cast;omega
    have hol2:(out.length:Int)<(oc2:Int):=by rw [List.length_append,List.length_cons] at hoc2;omega
    have hol0:(0:Int)≤(out.length:Int):=by omega
    clear k3 HGO hlen2 hol
    generalize (out++((pk,pn,pw),(-1:Int))::MK).length=on at *
    generalize kp c=kc at *
    generalize zC E.r.by' p=ei at *
    go_wp2_with fail
    exact HX.out
  have hx:=HKS.out.lt c hlt
  have hup:=HKS.out.up c hlt
  have hle:=HKS.out.le (c+1) hlt
  have hnx:=HKS.out.nx c hlt
  have hNo:=HN.out
  have hM:=HM.out
  rw [zRo (show kp c≠zC E.r.by' p by omega),hnx] at hM
  have hml:=congrArg List.length hM
  have hln:=HLN.out
  rw [List.length_append,List.length_append] at hml
  rw [List.length_cons] at hln
  have CI:=Hd (HIH.out N (by have:=HNN.out;omega) wr out' lg' ov' fv' (kp c) HII.out HWW.out hol hx (by rw [hnx];omega) (by show (mkM E N (kp c)).length≤_;unfold mkM;omega))
  obtain ⟨ts,hts⟩:=zAq (t:=E.r.by') (hs:=E.r.holes) HRB.out HRV.out N (kp c)
  have hcnt:cntP ((mkM E N (kp c)).map (·.1))=ts.length:=fK hts
  rw [hcnt] at CI
  have hul:us.length≤2000000000000:=by
   have h1:=(yM HUS.out).2.1
   rw [List.length_map] at h1
   omega
  have htl2:ts.length≤2000000000000:=by
   have h1:=(yM hts).2.1
   rw [List.length_map] at h1
   omega
  have hwu:IntKind.i64.wrap ((us.length:Int)+(ts.length:Int))=(us.length:Int)+(ts.length:Int):=wI (by omega)
  have HXX:Hid (∀ w6 o2 l2 v2 f2,mkGo out' lg' (mkM E N (kp c)) o2 l2→o2.length≤131073→MkIn w0 E o2 l2 v2 f2 w6→KpC E.g ov' fv' v2 f2 wr w6→wnRel w0 E n q kp (zC E.r.by' p) ((pk,pn,pw),-1) MK out lg (.slice oa out.length oc) fv W (.int .i64 ((us.length:Int)+(ts.length:Int))) (.int .i64 (zC E.r.by' (kp c):Int)) w6):=Hd fun w6 o2 l2 v2 f2 h1 h2 h3 h4=>⟨c+1,N,M++mkM E N (kp c),us++ts,o2,l2,v2,f2,by rw [List.length_append];push_cast;rfl,by rw [hnx],hlt,by rw [List.append_assoc];exact hM,by omega,by have:=HNN.out;omega,by rw [List.map_append];exact jY HUS.out hts,by rw [← List.cons_append];exact HGO.out.app h1,h2,h3,HKK.out.trans h4⟩
  have HRC:Hid (∀ w6 o2 l2 v2 f2,MkIn w0 E o2 l2 v2 f2 w6→KpC E.g ov' fv' v2 f2 wr w6→w6.cell? ⟨gy,0,none⟩=some (.slice (some ⟨eb,eo,none⟩) E.r.by'.length vc)∧w6.cell? ⟨eb,eo+kp c,none⟩=some (.int .i64 (zC E.r.by' (kp c):Int))):=Hd fun w6 o2 l2 v2 f2 h3 h4=>by
   have hw6:=HWW.out.kc HII.out h4
   obtain ⟨eb2,eo2,e',_,_,hce2⟩:=zAz hw6.r (Below.refl _ _) (by rw [xJ];omega)
   simp only [Option.some.injEq,Addr.mk.injEq,and_true] at e'
   obtain ⟨rfl,rfl⟩:=e'
   refine ⟨?_,hce2 _ _ (jB (l:=E.r.by') (j:=kp c) hx)⟩
   have:=hw6.cells.2.1
   rwa [xJ] at this
  have hms:Hid (zC E.r.by' p-zC E.r.by' (kp c)<zC E.r.by' p-kp c):=Hd (by rw [hnx];omega)
  have hke:(kp c:Int)<(zC E.r.by' p:Int):=by omega
  have hk0:(0:Int)≤(kp c:Int):=by omega
  have hkl:(kp c:Int)<E.r.by'.length:=by omega
  have hkv:(kp c:Int)<vc:=by omega
  clear hx hup hle hnx hNo hM hml hln HM HN hts hcnt hce
  generalize zC E.r.by' (kp c)=ek at *
  generalize kp c=kc at *
  generalize zC E.r.by' p=ei at *
  go_wp2_with fail
  refine CI.out.mono ?_
  intro e w6 h6
  obtain ⟨o2,l2,v2,f2,u,rfl,rfl,hgo2,hol2,hi2,hk2⟩:=h6.out
  have HX:=Hd (HXX.out w6 o2 l2 v2 f2 hgo2 hol2 hi2 hk2)
  obtain ⟨g1,g2⟩:=HRC.out w6 o2 l2 v2 f2 hi2 hk2
  clear hgo2 hi2 hk2 h6 m0 m1 m2 cp
  go_wp2_with fail
  exact ⟨HX.out,by have:=hms.out;simp only [intOf];omega⟩
theorem yBb (w0:World) (E:MkE) (F:MkF w0 E) (gm gy gw:Nat) (vy:Value):∀ n,WalkC w0 E gm gy gw vy n:=by
 intro n
 induction n using Nat.strongRecOn with
 | ind n ih =>
  intro W out lg ov fv p hi hw hn hp hf hlen
  have hg:=(zN (zK (kV F.rz).2.1.well) hp).1
  obtain ⟨m,rfl⟩:∃ m,n=m+1:=⟨n-1,by omega⟩
  cases ho:zW E.r.by' E.r.holes p with
  | some h=>exact zZm w0 E F gm gy gw vy m W out lg ov fv p hi hw hn hp h ho
  | none=>exact zZn w0 E F gm gy gw vy m ih W out lg ov fv p hi hw hn hp hf hlen ho
end Go.Proofs.YtfalelkfhandfaaGreatDoor
namespace Go.Proofs.YtfalelkfhandfaaGreatDoor
set_option maxRecDepth 100000
set_option maxHeartbeats 32000000
set_option linter.all false
attribute [local irreducible] Calls
open Go.RowKit

theorem zPa:(Tryz.prog.info? 4).map (fun i=>(i.zero,i.size,i.bytes))=some (some (.bool false),1,1):=by kernel_rfl
theorem zMe (n:Nat) (hn:n≤1000000000) (w:World) :
  (Instr.makeSlice 89 (.int .i64 (n:Int)) (.int .i64 (n:Int))).run Tryz.prog w=.ok (.slice (some ⟨w.heap.size,0,none⟩) n n) (w.alloc (.cells (List.replicate n (Value.bool false)).toArray 4)):=by
 obtain ⟨i,hi,hz,hsz,hb⟩:=info_parts zPa
 have hr:=run_make (P:=Tryz.prog) w 89 4 i (.bool false) Tryz.underlying89 hi hz .i64 .i64 (n:Int) (n:Int) (by omega) (Int.le_refl _) (by rw [hb];omega) (by omega)
 rw [hsz] at hr
 have e:madeCells (Value.bool false).cells ((n:Int).toNat*1)=(List.replicate n (Value.bool false)).toArray:=by
  apply Array.ext'
  rw [Int.toNat_natCast,Nat.mul_one]
  show (madeCells #[.bool false] n).toList=_
  rw [toList_madeCells_one]
 rw [e] at hr
 rw [hr]
 simp only [Int.toNat_natCast]
def blV (L:List Bool):List Value:=L.map Value.bool
def gwRel (l:List Prt) (w:World) (iv:Value) (wr:World):Prop:=∃ i:Nat,iv=.int .i64 (i:Int)∧i≤l.length∧wr.heap[w.heap.size]?=some (.cells (blV (lsE l i (i+1))).toArray 4 (0,0))∧Below w.heap.size w wr
def gwKid (l:List Prt) (i q:Nat) (kp:Nat→Nat) (w:World) (B:Nat) (vk kv:Value) (wr:World):Prop:=∃ c:Nat,kv=.int .i64 (c:Int)∧c≤q∧wr.heap[w.heap.size]?=some (.cells (blV (lsE l i (kp c))).toArray 4 (0,0))∧wr.ownsRow B 3 1 vk q (natV (kidsB l i))∧Below w.heap.size w wr
def gwOut (l:List Prt) (fr:List Int) (wE:World) (ov nv iv:Value) (wr:World):Prop:=∃ j:Nat,iv=.int .i64 (j:Int)∧j≤l.length∧TwoR wE.heap.size wE ((gSeg l fr 0 j).map (·.1)) ((gSeg l fr 0 j).map (·.2)) ov nv wr
theorem zXw (w:World) (l:List Prt) (fr:List Int) (vl vf:Value) (hL:zD w vl l) (hF:zI w vf .i64 fr) (hl:l.length≤1048576) :
  Calls Tryz.prog 30 #[vl,vf] w (xE w l fr):=by
 have CW:=Hd (zCt l (by omega) vl w hL)
 obtain ⟨la,lc,hvl,hlc⟩:=hL.slice
 obtain ⟨fa,fc,hvf,hfc,hfo⟩:=hF.open'
 have HNO:Hid (zZ l=false→xE w l fr (.returned (.tuple #[.slice none 0 0,.slice none 0 0,.int .i64 8])) w):=Hd fun h=>by
  unfold xE;rw [if_pos h];exact ⟨Below.refl _ _,rfl⟩
 have HN2:Hid (zZ l=true→fr.length≠l.length→xE w l fr (.returned (.tuple #[.slice none 0 0,.slice none 0 0,.int .i64 1])) w):=Hd fun h h2=>by
  unfold xE;rw [if_neg (by rw [h];decide),if_pos h2];exact ⟨Below.refl _ _,rfl⟩
 have HYES:Hid (zZ l=true→fr.length=l.length→∀ w' ov nv wE,Below w.heap.size w wE→TwoR wE.heap.size wE ((gSeg l fr 0 l.length).map (·.1)) ((gSeg l fr 0 l.length).map (·.2)) ov nv w'→xE w l fr (.returned (.tuple #[ov,nv,.int .i64 0])) w'):=Hd fun h h2 w' ov nv wE hb ht=>by
  unfold xE;rw [if_neg (by rw [h];decide),if_neg (by simp [h2])]
  have ho:=jQ ht.o hb.size
  have hn:=jQ ht.n hb.size
  rw [List.length_map] at ho hn
  exact ⟨zB hb ht.b,ov,nv,rfl,ho,hn⟩
 have HFC:Hid (fr.length=l.length→0<l.length→∃ fb fo,fa=some ⟨fb,fo,none⟩∧∀ W,Below w.heap.size w W→∀ j (hj:j<fr.length),W.cell? ⟨fb,fo+j,none⟩=some (.int .i64 fr[j])):=Hd fun h h0=>by
  obtain ⟨b,o,e1,e2,e3⟩:=hfo (by omega)
  exact ⟨b,o,e1,fun W hb j hj=>(hb.cell (p:=⟨b,o+j,none⟩) e2).trans (e3 j hj)⟩
 generalize xE w l fr=Q at *
 subst hvl;subst hvf
 have HL:=Hd hL
 clear hL hF hfo
 go_enter Tryz.func30,Tryz.ntmps30
 go_wp2_with fail
 refine CW.out.mono ?_
 rintro e w1 ⟨rfl,rfl⟩
 rename World=>w
 cases hw:zZ l with
 | false =>
  have HZ:=Hd (HNO.out hw)
  go_wp2_with fail
  exact HZ.out
 | true =>
 by_cases hn:fr.length=l.length
 case neg =>
  have HZ:=Hd (HN2.out hw hn)
  have hn1:((fr.length:Int) != (l.length:Int))=true:=by rw [bne_iff_ne];omega
  clear hn
  go_wp2_with fail
  exact HZ.out
 have HY:=Hd (HYES.out hw hn)
 have HU:=Hd (zK hw)
 have h0:=(xA hw).1
 obtain ⟨fb,fo,rfl,hfc2⟩:=HFC.out hn h0
 have HFX:=Hd hfc2
 obtain ⟨lb,lo,rfl,_,_,_,hcell⟩:=HL.out.at (Below.refl _ _) (show 0<l.length by omega)
 have HC:Hid (∀ W,Below w.heap.size w W→∀ j (hj:j<l.length),W.cell? ⟨lb,lo+j*3,none⟩=some (.int .u8 ((l[j]).1:Int))∧W.cell? ⟨lb,lo+j*3+1,none⟩=some (.int .i64 (l[j]).2.1)∧W.cell? ⟨lb,lo+j*3+2,none⟩=some (.string (l[j]).2.2)):=Hd fun W hb j hj=>by
  obtain ⟨b',off',hbb,_,_,_,hcc⟩:=HL.out.at hb (show 0<l.length by omega)
  simp only [Option.some.injEq,Addr.mk.injEq,and_true] at hbb
  obtain ⟨rfl,rfl⟩:=hbb
  exact hcc j hj
 have hmk:=zMe l.length (by omega)
 have HG4:Hid ((w.alloc (.cells (Array.replicate l.length (Value.bool false)) 4)).heap[w.heap.size]?=some (.cells (blV (lsE l 0 (0+1))).toArray 4 (0,0))):=Hd (by
  rw [heap_alloc_new,Nat.zero_add,zUd]
  unfold blV
  rw [List.map_replicate,List.toArray_replicate])
 have HB4:Hid (Below w.heap.size w (w.alloc (.cells (Array.replicate l.length (Value.bool false)) 4))):=Hd ((Below.refl _ _).alloc (Nat.le_refl _) _)
 have hnb:((fr.length:Int) != (l.length:Int))=false:=by rw [hn];simp
 clear HNO HN2 HYES HFC hcell hfc2 CW
 go_wp2_with fail
 clear hmk hnb
 generalize w.alloc (.cells (Array.replicate l.length (Value.bool false)) 4)=W0 at *
 obtain ⟨gm,hgm⟩:∃ gm,w.heap.size=gm:=⟨_,rfl⟩
 have HGM:=Hd hgm
 rw [hgm] at HG4 ⊢
 clear hgm
 go_loopw [8] (fun iv wr=>gwRel l w iv wr) (fun iv _=>l.length-(intOf iv).toNat)
 case atStart=>exact ⟨0,rfl,Nat.zero_le _,by rw [HGM.out];exact HG4.out,HB4.out⟩
 case round =>
  obtain ⟨i,rfl,hi,hh,hb⟩:=hrel
  rw [HGM.out] at hh
  have HH:=Hd hh
  have HB:=Hd hb
  clear hh hb
  have hgmlt:gm<wr.heap.size:=zP HH.out
  by_cases hlt:i<l.length
  case neg =>
   obtain rfl:i=l.length:=by omega
   have hli:¬ (l.length:Int)<l.length:=by omega
   have HTR:Hid (TwoR wr.heap.size wr [] [] (.slice none 0 0) (.slice none 0 0) wr):=Hd (TwoR.start (Below.refl _ _) (Nat.le_refl _))
   have HHE:Hid (∀ W,Below wr.heap.size wr W→∀ j,j<l.length→W.cell? ⟨gm,j,none⟩=some (.bool (looseAt l j))):=Hd fun W hb j hj=>by
    rw [hb.cell (p:=⟨gm,j,none⟩) hgmlt]
    have:=HH.out
    rw [yAd] at this
    simp [World.cell?,this,blV,hj]
   clear hlt
   go_wp2_with fail
   go_loopw [11,12,13] (fun ov nv iv wx=>gwOut l fr wr ov nv iv wx) (fun _ _ iv _=>l.length-(intOf iv).toNat)
   case atStart=>exact ⟨0,rfl,Nat.zero_le _,by rw [zGs];exact HTR.out⟩
   case round =>
    obtain ⟨j,rfl,hj,ht⟩:=hrel
    rename World=>wx
    have HT0:=Hd ht
    clear ht
    by_cases hlt:j<l.length
    case neg =>
     obtain rfl:j=l.length:=by omega
     have HZ:=Hd (HY.out _ _ _ wr HB.out HT0.out)
     clear hlt
     go_wp2_with fail
     exact HZ.out
    have hjl:(j:Int)<l.length:=by omega
    have hj0:(0:Int)≤(j:Int):=by omega
    have hjc:(j:Int)<lc:=by omega
    have hjf:(j:Int)<fr.length:=by omega
    have hjfc:(j:Int)<fc:=by omega
    have hwj:IntKind.i64.wrap ((j:Int)+1)=(j:Int)+1:=wI (by omega)
    have gj:=HHE.out wx HT0.out.b j hlt
    have hgl:=zOu l fr j
    have HGS:Hid (gSeg l fr 0 (j+1)=gSeg l fr 0 j++((if looseAt l j then [paren] else [])++[(l[j],fr[j])])):=Hd (by
     rw [zKl]
     unfold gOne pnAt
     simp [List.getD_eq_getElem?_getD,hlt,hn])
    have HCW:=Hd (fun W (hb:Below w.heap.size w W)=>HC.out W hb j hlt)
    have HFW:=Hd (fun W (hb:Below w.heap.size w W)=>HFX.out W hb j (by omega))
    generalize l[j]=pj at *
    generalize fr[j]=fj at *
    generalize gSeg l fr 0 j=M at *
    cases hlo:looseAt l j with
    | true =>
     rw [hlo] at gj HGS
     obtain ⟨v1,w1,hap1,t1⟩:=HT0.out.pushO (28,1,ByteArray.empty) (by rw [List.length_map];omega)
     obtain ⟨v2,w2,hap2,t2⟩:=t1.pushN (-1) (by rw [List.length_map];omega)
     obtain ⟨v3,w3,hap3,t3⟩:=t2.pushO pj (by simp;omega)
     obtain ⟨v4,w4,hap4,t4⟩:=t3.pushN fj (by simp;omega)
     obtain ⟨p0,p1,p2⟩:=HCW.out w2 (zB HB.out t2.b)
     have f0:=HFW.out w3 (zB HB.out t3.b)
     have HX:Hid (gwOut l fr wr v3 v4 (.int .i64 ((j:Int)+1)) w4):=Hd ⟨j+1,by push_cast;rfl,hlt,by
      rw [HGS.out]
      have:=t4
      simpa [paren] using this⟩
     have HAP1:=Hd hap1;have HAP2:=Hd hap2;have HAP3:=Hd hap3;have HAP4:=Hd hap4
     clear hap1 hap2 hap3 hap4 t1 t2 t3 t4 hlo
     go_wp2_with (first | (at_builtin;refine zF rfl _ _ _ _ HAP1.out rfl rfl rfl rfl ?_) | (at_builtin;refine zF rfl _ _ _ _ HAP2.out rfl rfl rfl rfl ?_) | (at_builtin;refine zF rfl _ _ _ _ HAP3.out rfl rfl rfl rfl ?_) | (at_builtin;refine zF rfl _ _ _ _ HAP4.out rfl rfl rfl rfl ?_))
     exact ⟨HX.out,by simp only [intOf];omega⟩
    | false =>
     rw [hlo] at gj HGS
     obtain ⟨v3,w3,hap3,t3⟩:=HT0.out.pushO pj (by rw [List.length_map];omega)
     obtain ⟨v4,w4,hap4,t4⟩:=t3.pushN fj (by rw [List.length_map];omega)
     obtain ⟨p0,p1,p2⟩:=HCW.out wx (zB HB.out HT0.out.b)
     have f0:=HFW.out w3 (zB HB.out t3.b)
     have HX:Hid (gwOut l fr wr v3 v4 (.int .i64 ((j:Int)+1)) w4):=Hd ⟨j+1,by push_cast;rfl,hlt,by
      rw [HGS.out]
      have:=t4
      simpa using this⟩
     have HAP3:=Hd hap3;have HAP4:=Hd hap4
     clear hap3 hap4 t3 t4 hlo
     go_wp2_with (first | (at_builtin;refine zF rfl _ _ _ _ HAP3.out rfl rfl rfl rfl ?_) | (at_builtin;refine zF rfl _ _ _ _ HAP4.out rfl rfl rfl rfl ?_))
     exact ⟨HX.out,by simp only [intOf];omega⟩
  obtain ⟨q,kp,KS⟩:=zMq HU.out hlt
  have HKS:=Hd KS
  have hqn:=KS.n
  have CK:=Hd (zFk l (by omega) _ HU.out _ i hlt wr (HL.out.below HB.out))
  have hil:(i:Int)<l.length:=by omega
  have hi0:(0:Int)≤(i:Int):=by omega
  have hilc:(i:Int)<lc:=by omega
  clear KS
  go_wp2_with fail
  refine CK.out.mono ?_
  intro e w4 h4
  unfold kidsOwn at h4
  obtain ⟨vk,rfl,hb4,hk4⟩:=h4
  rw [HKS.out.len] at hk4
  obtain ⟨ka,kc,rfl,hkc⟩:=Row.shape (Row.of_owns hk4)
  have HK4:=Hd hk4
  have HH4:=Hd (keeps hb4 HH.out)
  have HB4x:=Hd (zB HB.out hb4)
  clear hb4 hk4 CK
  go_wp2_with fail
  go_loopw [10] (fun kv wx=>gwKid l i q kp w wr.heap.size (.slice ka q kc) kv wx) (fun kv _=>q-(intOf kv).toNat)
  case atStart=>exact ⟨0,rfl,Nat.zero_le _,by rw [HGM.out,HKS.out.z];exact HH4.out,HK4.out,HB4x.out⟩
  case round =>
   obtain ⟨c,rfl,hc,hh,hk,hb⟩:=hrel
   rename World=>wx
   rw [HGM.out] at hh
   have HHX:=Hd hh
   have HKX:=Hd hk
   have HBX:=Hd hb
   clear hh hk hb
   by_cases hcq:c<q
   case neg =>
    obtain rfl:c=q:=by omega
    have hcc:¬ (c:Int)<c:=by omega
    have HX:Hid (gwRel l w (.int .i64 ((i:Int)+1)) wx):=Hd ⟨i+1,by push_cast;rfl,hlt,by
     rw [← zXm HU.out hlt (Nat.le_of_eq HKS.out.e.symm),HGM.out];exact HHX.out,HBX.out⟩
    have hwi:IntKind.i64.wrap ((i:Int)+1)=(i:Int)+1:=wI (by omega)
    clear hcq
    go_wp2_with fail
    exact ⟨HX.out,by simp only [intOf];omega⟩
   obtain ⟨hup,hik,hke,hlo⟩:=yBi HU.out hlt HKS.out hcq
   have hkl:=HKS.out.lt c hcq
   obtain ⟨kg,rfl⟩:=xI HKX.out (by omega)
   have hkb:=HKX.out.lt kg rfl
   have hset:=yAc HU.out hlt hik hke hup
   rw [HKS.out.nx c hcq,hlo] at hset
   have hpi:zR l i=l[i]:=by unfold zR;simp [List.getD_eq_getElem?_getD,hlt]
   have hpk:zR l (kp c)=l[kp c]:=by unfold zR;simp [List.getD_eq_getElem?_getD,hkl]
   rw [hpi,hpk] at hset
   have CL:=Hd (fun W=>zUk l[i] c l[kp c] W)
   unfold partA at CL
   have HS:Hid (∀ W,Below wx.heap.size wx W→W.cell? ⟨kg,c,none⟩=some (.int .i64 (kp c:Int))∧W.cell? ⟨lb,lo+i*3,none⟩=some (.int .u8 ((l[i]).1:Int))∧W.cell? ⟨lb,lo+i*3+1,none⟩=some (.int .i64 (l[i]).2.1)∧W.cell? ⟨lb,lo+i*3+2,none⟩=some (.string (l[i]).2.2)∧W.cell? ⟨lb,lo+kp c*3,none⟩=some (.int .u8 ((l[kp c]).1:Int))∧W.cell? ⟨lb,lo+kp c*3+1,none⟩=some (.int .i64 (l[kp c]).2.1)∧W.cell? ⟨lb,lo+kp c*3+2,none⟩=some (.string (l[kp c]).2.2)):=Hd fun W hb=>by
    have h1:=HC.out W (zB HBX.out hb)
    refine ⟨?_,(h1 i hlt).1,(h1 i hlt).2.1,(h1 i hlt).2.2,(h1 _ hkl).1,(h1 _ hkl).2.1,(h1 _ hkl).2.2⟩
    rw [(zS HKX.out hb).cellAt c (by omega)]
    have:=HKS.out.get c hcq
    unfold natV
    rw [List.getElem?_map,this];rfl
   have HSET:Hid (∀ W,Below wx.heap.size wx W→(W.cell? ⟨gm,kp c,none⟩=some (.bool (lsAt l i (kp c) (kp c)))∧W.frozen? ⟨gm,kp c,none⟩=false)∧gwKid l i q kp w wr.heap.size (.slice (some ⟨kg,0,none⟩) q kc) (.int .i64 ((c:Int)+1)) (W.setCell ⟨gm,kp c,none⟩ (.bool (looseZ l[i] c l[kp c])))):=Hd fun W hb=>by
    have hg:=keeps hb HHX.out
    refine ⟨⟨by simp [World.cell?,hg,blV,lsE,hkl],by simp [World.frozen?,hg]⟩,c+1,by push_cast;rfl,hcq,?_,?_,?_⟩
    ·rw [HGM.out,heap_setCell_same _ _ _ _ _ _ hg,← hset]
     unfold blV
     rw [List.setIfInBounds_toArray,← List.map_set]
    ·exact ownsRow_setCell_other (zS HKX.out hb) (a:=⟨gm,kp c,none⟩) (fun e=>by
      have:kg=gm:=by simpa [Value.ownBlock] using e
      omega) _
    ·exact (zB HBX.out hb).setCell (p:=⟨gm,kp c,none⟩) (by rw [HGM.out];exact Nat.le_refl _) _
   generalize lsAt l i (kp c) (kp c)=b0 at *
   have HHXd:=HHX.out
   clear hset hlo hup hpi hpk hke hik HHXd
   generalize looseZ l[i] c l[kp c]=lz at *
   generalize l[i]=pi at *
   generalize l[kp c]=pk at *
   generalize kp c=kk at *
   have hc0:(0:Int)≤(c:Int):=by omega
   have hcq2:(c:Int)<q:=by omega
   have hcc:(c:Int)<kc:=by omega
   have hk0:(0:Int)≤(kk:Int):=by omega
   have hkl2:(kk:Int)<l.length:=by omega
   have hklc:(kk:Int)<lc:=by omega
   have hwc:IntKind.i64.wrap ((c:Int)+1)=(c:Int)+1:=wI (by omega)
   have HBD:Hid (Below wx.heap.size wx wx.drew):=Hd (Below.refl _ _).drew
   have hS0:=HS.out _ HBD.out
   go_upto_region 13 with (fail)
   refine kS (S:=fun W=>W.cell? ⟨kg,c,none⟩=some (.int .i64 (kk:Int))∧W.cell? ⟨lb,lo+i*3,none⟩=some (.int .u8 (pi.1:Int))∧W.cell? ⟨lb,lo+i*3+1,none⟩=some (.int .i64 pi.2.1)∧W.cell? ⟨lb,lo+i*3+2,none⟩=some (.string pi.2.2)∧W.cell? ⟨lb,lo+kk*3,none⟩=some (.int .u8 (pk.1:Int))∧W.cell? ⟨lb,lo+kk*3+1,none⟩=some (.int .i64 pk.2.1)∧W.cell? ⟨lb,lo+kk*3+2,none⟩=some (.string pk.2.2)) [19] (by kernel_rfl) ?_
   generalize wx.drew=wd at *
   refine tkF 0 40 ?vq1 rfl ?hyq1 (fun _=>hS0) ?restq1
   case hyq1=>intro w q;clear q;go_simp;(try with_reducible rfl)
   (try simp only [aP])
   refine tkF 1 41 ?vq2 rfl ?hyq2 (fun _=>hS0) ?restq2
   case hyq2=>intro w q;clear q;go_simp;(try with_reducible rfl)
   (try simp only [aP])
   refine tkF 2 42 ?vq3 rfl ?hyq3 (fun _=>hS0) ?restq3
   case hyq3=>intro w q;clear q;go_simp;(try with_reducible rfl)
   (try simp only [aP])
   refine tkF 3 43 ?vq4 rfl ?hyq4 (fun _=>hS0) ?restq4
   case hyq4=>intro w q;clear q;go_simp;(try with_reducible rfl)
   (try simp only [aP])
   refine tkU [19,18] 4 44 ?vq5 rfl ?hyq5 hS0 ?restq5
   case hyq5=>intro w q;(try dsimp only at q);go_simp;(try with_reducible rfl)
   (try simp only [aP])
   refine tkF 5 45 ?vq6 rfl ?hyq6 (fun _=>hS0) ?restq6
   case hyq6=>intro w q;clear q;go_simp;(try with_reducible rfl)
   (try simp only [aP])
   refine tkF 6 46 ?vq7 rfl ?hyq7 (fun _=>hS0) ?restq7
   case hyq7=>intro w q;clear q;go_simp;(try with_reducible rfl)
   (try simp only [aP])
   refine tkF 7 47 ?vq8 rfl ?hyq8 (fun _=>hS0) ?restq8
   case hyq8=>intro w q;clear q;go_simp;(try with_reducible rfl)
   (try simp only [aP])
   refine tkU [19,17] 8 48 ?vq9 rfl ?hyq9 hS0 ?restq9
   case hyq9=>intro w q;(try dsimp only at q);go_simp;(try with_reducible rfl)
   (try simp only [aP])
   refine tkF 9 49 ?vq10 rfl ?hyq10 (fun _=>hS0) ?restq10
   case hyq10=>intro w q;clear q;go_simp;(try with_reducible rfl)
   (try simp only [aP])
   refine tkF 10 50 ?vq11 rfl ?hyq11 (fun _=>hS0) ?restq11
   case hyq11=>intro w q;clear q;go_simp;(try with_reducible rfl)
   (try simp only [aP])
   refine tkF 11 51 ?vq12 rfl ?hyq12 (fun _=>hS0) ?restq12
   case hyq12=>intro w q;clear q;go_simp;(try with_reducible rfl)
   (try simp only [aP])
   refine tkF 12 52 ?vq13 rfl ?hyq13 (fun _=>hS0) ?restq13
   case hyq13=>intro w q;clear q;go_simp;(try with_reducible rfl)
   (try simp only [aP])
   refine tkF 13 53 ?vq14 rfl ?hyq14 (fun _=>hS0) ?restq14
   case hyq14=>intro w q;clear q;go_simp;(try with_reducible rfl)
   (try simp only [aP])
   refine tkU [19,17,16,15] 14 54 ?vq15 rfl ?hyq15 hS0 ?restq15
   case hyq15=>intro w q;(try dsimp only at q);go_simp;(try with_reducible rfl)
   (try simp only [aP])
   refine tkF 15 55 ?vq16 rfl ?hyq16 (fun _=>hS0) ?restq16
   case hyq16=>intro w q;clear q;go_simp;(try with_reducible rfl)
   (try simp only [aP])
   refine tkU [19,17] 16 56 ?vq17 rfl ?hyq17 hS0 ?restq17
   case hyq17=>intro w q;(try dsimp only at q);go_simp;(try with_reducible rfl)
   (try simp only [aP])
   refine yB (rs:=[17]) (by kernel_rfl) (by simp) ?_
   refine zJ.cons (o:=⟨some 57,_,_,_,_,_⟩) rfl (fun K hK=>?_) zJ.nil
   go_simp
   go_at_call 51
   refine (CL.out _).mono ?_
   rintro e w5 ⟨rfl,hb5⟩
   have HB5:=Hd (zB HBD.out hb5)
   have hS5:=HS.out w5 HB5.out
   obtain ⟨⟨g0,g1⟩,hg⟩:=HSET.out w5 HB5.out
   have HX:=Hd hg
   clear hb5 hg
   (try dsimp only)
   refine hK.out _ _ (fun _=>hS5) ?_
   clear hK K
   (try simp only [aP])
   refine tkF 18 58 ?vq18 rfl ?hyq18 (fun _=>hS5) ?restq18
   case hyq18=>intro w q;clear q;go_simp;(try with_reducible rfl)
   (try simp only [aP])
   refine yB (rs:=[19]) (by kernel_rfl) (by simp) ?_
   refine zJ.cons (o:=⟨none,_,_,_,_,_⟩) rfl (fun K hK=>?_) zJ.nil
   go_simp
   refine hK.out _ _ (fun h=>Bool.noConfusion (h.symm.trans (by kernel_rfl:_=false))) ?_
   clear hK K
   (try simp only [aP])
   refine jD (by kernel_rfl) ?_ _
   clear hS0 hS5 g0 g1
   go_wp2_with fail
   exact ⟨HX.out,by simp only [intOf];omega⟩
end Go.Proofs.YtfalelkfhandfaaGreatDoor
