/- Layer 20: the maker's closure where no hole stands, and the closure whole. -/
import Derived.Test.YtmklemelgdilkaaGreatDoorFillZMk
import Derived.Test.YtmklemelgdilkaaGreatDoorFillCMk
import Derived.Test.YtmklemelgdilkaaGreatDoorRefInstMk
import Derived.Test.YtmklemelgdilkaaGreatDoorMakWMk
import Derived.Test.YtmklemelgdilkaaGreatDoorStillMk
import Derived.Test.YtmklemelgdilkaaGreatDoorRefRightMk
import Derived.Test.YtmklemelgdilkaaGreatDoorMakHMk
import Derived.Test.YtmklemelgdilkaaGreatDoorTermQMk
namespace Go.Proofs.YtmklemelgdilkaaGreatDoor
set_option linter.all false
attribute [local irreducible] Calls
attribute [local irreducible] wpStill
open Go.RowKit

theorem KpC.setO {g:Nat} {ov nv ov' nv':Value} {W W':World} (h:KpC g ov nv ov' nv' W W') {b:Nat} (hb:ov'.ownBlock=some b) (j:Nat) (u:Value):KpC g ov nv ov' nv' W (W'.setCell ⟨b,j,none⟩ u) :=
 ⟨h.os,h.tape,h.output,by have:=h.size;simpa using this,fun k h1 h2 h3 h4=>by
  rw [heap_setCell_other _ _ _ _ (show k≠b from fun e=>by
   subst e
   rcases h.no k hb with e | e
   ·exact h3 e
   ·omega)]
  exact h.low k h1 h2 h3 h4,h.no,h.nn⟩
theorem partsV_kids (A B:List Prt) (k:Nat) (n m:Int) (s:ByteArray):(partsV (A++(k,n,s)::B)).set (A.length*3+1) (.int .i64 m)=partsV (A++(k,m,s)::B):=by
 rw [partsV_append,partsV_append,List.set_append_right _ _ (by rw [partsV_length];omega),partsV_length,show A.length*3+1-A.length*3=1 by omega]
 rfl
theorem partsV_kcell (A B:List Prt) (k:Nat) (n:Int) (s:ByteArray):(partsV (A++(k,n,s)::B))[A.length*3+1]?=some (.int .i64 n):=by
 rw [partsV_append,List.getElem?_append_right (by rw [partsV_length];omega),partsV_length,show A.length*3+1-A.length*3=1 by omega]
 rfl
theorem MkIn.kids {w0 W:World} {E:MkE} {A B:List PN} {k:Nat} {n:Int} {s:ByteArray} {z:Int} {lg:Bool} {g c:Nat} {fv:Value} (h:MkIn w0 E (A++((k,n,s),z)::B) lg (.slice (some ⟨g,0,none⟩) (A++((k,n,s),z)::B).length c) fv W) (m:Int) :
  W.cell? ⟨g,A.length*3+1,none⟩=some (.int .i64 n)∧W.frozen? ⟨g,A.length*3+1,none⟩=false∧MkIn w0 E (A++((k,m,s),z)::B) lg (.slice (some ⟨g,0,none⟩) (A++((k,n,s),z)::B).length c) fv (W.setCell ⟨g,A.length*3+1,none⟩ (.int .i64 m)):=by
 have ho:=h.o
 have hl:(A++((k,n,s),z)::B).length=A.length+B.length+1:=by rw [List.length_append,List.length_cons];omega
 have hl2:(A++((k,m,s),z)::B).length=A.length+B.length+1:=by rw [List.length_append,List.length_cons];omega
 have hc:W.cell? ⟨g,A.length*3+1,none⟩=some (.int .i64 n):=by
  rw [ho.cellAt _ (by omega),List.map_append,List.map_cons]
  have:=partsV_kcell (A.map (·.1)) (B.map (·.1)) k n s
  rwa [List.length_map] at this
 have hg:=ho.lt g rfl
 have hgB:=h.gB
 have hg0:=h.g0
 have hz:W.frozen? ⟨g,A.length*3+1,none⟩=false:=by
  rcases ho.2 with ⟨hv,_⟩ | ⟨g',c',cur,hv,_,hh,_⟩
  ·cases hv
  ·simp only [Value.slice.injEq,Option.some.injEq,Addr.mk.injEq,and_true] at hv
   obtain ⟨rfl,_⟩:=hv
   simp [World.frozen?,hh]
 have o2:=owns_set ho (A.length*3+1) (by rw [partsV_length,List.length_map];omega) (.int .i64 m)
 rw [List.map_append,List.map_cons] at o2
 have e2:=partsV_kids (A.map (·.1)) (B.map (·.1)) k n m s
 rw [List.length_map] at e2
 rw [e2] at o2
 refine ⟨hc,hz,⟨h.b.setCell (p:=⟨g,_,none⟩) (by show _≤g;omega) _,?_,?_,?_,h.g0,h.gB,by simpa using h.B⟩⟩
 ·unfold mkB
  rw [heap_setCell_other _ _ _ _ (show E.g≠g by omega)];exact h.s
 ·rw [List.map_append,List.map_cons,hl2]
  rwa [hl] at o2 ⊢
 ·have hf:=h.f
  have e3:(A++((k,n,s),z)::B).map (·.2)=(A++((k,m,s),z)::B).map (·.2):=by rw [List.map_append,List.map_append];rfl
  rw [e3,hl] at hf
  rw [hl2]
  exact ownsRow_setCell_other hf (a:=⟨g,A.length*3+1,none⟩) (owns_ne ho h.f (by decide) rfl) _
def wnRel (w0:World) (E:MkE) (n q:Nat) (kp:Nat→Nat) (pend:Nat) (x0:PN) (MK:List PN) (out:List PN) (lg:Bool) (ov fv:Value) (W:World) (nv kv:Value) (wr:World):Prop :=
 ∃ (c N:Nat) (M:List PN) (us:List Nat) (out':List PN) (lg':Bool) (ov' fv':Value),nv=.int .i64 (us.length:Int)∧kv=.int .i64 (kp c:Int)∧c≤q∧M++mKids E.r.by' E.l E.r.holes (bOf E.bs) N (kp c) pend=MK∧2*(pend-kp c)+1≤N∧N≤n∧rowsB (M.map (·.1))=some us∧mkGo out lg (x0::M) out' lg'∧out'.length≤131073∧MkIn w0 E out' lg' ov' fv' wr∧KpC E.g ov fv ov' fv' W wr
set_option maxRecDepth 100000 in
set_option maxHeartbeats 16000000 in
theorem wk_none (w0:World) (E:MkE) (F:MkF w0 E) (gm gy gw:Nat) (vy:Value) (n:Nat) (ih:∀ m,m<n+1→WalkC w0 E gm gy gw vy m) (W:World) (out:List PN) (lg:Bool) (ov fv:Value) (p:Nat) (hi:MkIn w0 E out lg ov fv W) (hw:WkS E gm gy gw vy W) (hn:out.length≤131073) (hp:p<E.r.by'.length) (hfuel:2*(endB E.r.by' p-p)≤n+1) (hlen:(mkM E (n+1) p).length≤2000000000000) (ho:holeOf E.r.by' E.r.holes p=none) :
  Calls Tryz.prog 37 #[.int .i64 (p:Int),.pointer (some ⟨gm,0,none⟩),.pointer (some ⟨gy,0,none⟩),.pointer (some ⟨gw,0,none⟩)] W (mkPost w0 E out lg ov fv (mkM E (n+1) p) W fun u=>u=.int .i64 (cntP ((mkM E (n+1) p).map (·.1)):Int)):=by
 have hone:=mPart_one (t:=E.r.by') (hs:=E.r.holes) (bOf_in (right_in F.rt)) (right_rows F.rt) (n:=n) ho hp
 obtain ⟨MK,hMK⟩:∃ MK,mKids E.r.by' E.l E.r.holes (bOf E.bs) n (p+1) (endB E.r.by' p)=MK:=⟨_,rfl⟩
 have hmk:mkM E (n+1) p=(((E.r.by'[p]).1,(cntP (MK.map (·.1)):Int),(E.r.by'[p]).2.2),-1)::MK:=by rw [← hMK];exact mp_none ho hp
 rw [show cntP ((mkM E (n+1) p).map (·.1))=1 from hone]
 rw [hmk] at hlen ⊢
 have HBY:=(rule_holes F.rz).2.1
 obtain ⟨q,kp,KS⟩:=kid_seq (well_rows HBY.well) hp
 have hyl:=F.sr.b.1
 have hgf:=endB_gt (well_rows HBY.well) hp
 have HYES:RowKit.Hid (∀ w' out' lg' ov' fv',mkGo out lg ((((E.r.by'[p]).1,(cntP (MK.map (·.1)):Int),(E.r.by'[p]).2.2),-1)::MK) out' lg'→out'.length≤131073→MkIn w0 E out' lg' ov' fv' w'→KpC E.g ov fv ov' fv' W w'→mkPost w0 E out lg ov fv ((((E.r.by'[p]).1,(cntP (MK.map (·.1)):Int),(E.r.by'[p]).2.2),-1)::MK) W (fun u=>u=.int .i64 ((1:Nat):Int)) (.returned (.int .i64 1)) w'):=Hd fun w' out' lg' ov' fv' h1 h2 h3 h4=>by
  unfold mkPost;exact ⟨out',lg',ov',fv',_,rfl,rfl,h1,h2,h3,h4⟩
 have C1:=Hd (mk_hole w0 E F out lg ov fv W hi p hp)
 have CP:=Hd (fun W out lg ov fv (hi:MkIn w0 E out lg ov fv W) hn p nf=>mk_put w0 E out lg ov fv W hi hn p nf)
 obtain ⟨ya,yc,hvy,hyc⟩:=F.Y.slice
 have HYR:RowKit.Hid (PartRow w0 (.slice ya E.r.by'.length yc) E.r.by'):=Hd (hvy ▸ F.Y)
 obtain ⟨va,vc,rfl,hvc,hvo⟩:=hw.r.open'
 obtain ⟨eb,eo,rfl,_,_⟩:=hvo (by rw [endsL_length];omega)
 clear hvo
 rw [endsL_length] at hvc
 obtain ⟨oa,oc,rfl,hoc⟩:=Row.shape (Row.of_owns hi.o)
 have hcm:=hw.cells.1
 have HI:=Hd hi
 have HWK:=Hd hw
 have HIH:=Hd ih
 have HKS:=Hd KS
 have HMK:=Hd hMK
 have HFU:=Hd hfuel
 have HLN:=Hd hlen
 have HRB:=Hd (bOf_in (right_in F.rt))
 have HRV:=Hd (right_rows F.rt)
 have hqn:=KS.n
 generalize mkPost w0 E out lg (.slice oa out.length oc) fv ((((E.r.by'[p]).1,(cntP (MK.map (·.1)):Int),(E.r.by'[p]).2.2),-1)::MK) W (fun u=>u=.int .i64 ((1:Nat):Int))=Q at *
 clear hi hw F ih KS hMK hfuel hlen hone hmk
 go_enter Tryz.func37,Tryz.ntmps37
 go_wp2_with fail
 refine C1.out.mono ?_
 intro e w1 h1
 unfold mkHolePost at h1
 rw [ho] at h1
 obtain ⟨hb1,rfl⟩:=h1
 unfold bindA
 clear hcm C1
 have HB2:RowKit.Hid (Below W.heap.size W (w1.alloc (.cells #[.string ⟨#[]⟩,.int .i64 0,.int .i64 0] 48))):=Hd (hb1.alloc hb1.size _)
 clear hb1
 go_upto_region 9 with (fail)
 generalize w1.alloc (.cells #[.string ⟨#[]⟩,.int .i64 0,.int .i64 0] 48)=W2 at *
 have HI2:=Hd (HI.out.below HB2.out)
 have HW2:=Hd (HWK.out.below HB2.out)
 obtain ⟨m0,m1,m2⟩:=HW2.out.cells
 obtain ⟨c0,c1,c2,c3,c4,c5,c6,c7,c8,c9,c10,cz⟩:=HI2.out.s.cells
 clear c0 c1 c2 c3 c4 c5 c6 c7 c9 c10 cz m1 m2
 obtain ⟨yb,yo,rfl,y1,y2,y3,y4⟩:=HYR.out.at HI2.out.b (show 0<E.r.by'.length by omega)
 clear y1 y2 y3 y4
 have HYC:RowKit.Hid (∀ W',Below w0.heap.size w0 W'→W'.cell? ⟨yb,yo+p*3,none⟩=some (.int .u8 ((E.r.by'[p]).1:Int))∧W'.cell? ⟨yb,yo+p*3+1,none⟩=some (.int .i64 (E.r.by'[p]).2.1)∧W'.cell? ⟨yb,yo+p*3+2,none⟩=some (.string (E.r.by'[p]).2.2)):=Hd fun W' hb=>by
  obtain ⟨b2,o2,e',_,_,_,hcc⟩:=HYR.out.at hb (show 0<E.r.by'.length by omega)
  simp only [Option.some.injEq,Addr.mk.injEq,and_true] at e'
  obtain ⟨rfl,rfl⟩:=e'
  exact hcc p hp
 have HBS:RowKit.Hid (∀ W' o2 l2 v2 f2,MkIn w0 E o2 l2 v2 f2 W'→KpC E.g (.slice oa out.length oc) fv v2 f2 W2.drew W'→(W'.cell? ⟨gm,0,none⟩=some (.pointer (some ⟨E.g,0,none⟩))∧W'.cell? ⟨E.g,4,none⟩=some (.slice (some ⟨yb,yo,none⟩) E.r.by'.length yc)∧W'.cell? ⟨yb,yo+p*3,none⟩=some (.int .u8 ((E.r.by'[p]).1:Int))∧W'.cell? ⟨yb,yo+p*3+1,none⟩=some (.int .i64 (E.r.by'[p]).2.1)∧W'.cell? ⟨yb,yo+p*3+2,none⟩=some (.string (E.r.by'[p]).2.2))):=Hd fun W' o2 l2 v2 f2 h3 h4=>⟨((HW2.out.below (Below.refl _ _).drew).kc (HI2.out.below (Below.refl _ _).drew) h4).cells.1,by rw [h3.s.cells.2.2.2.2.1,hvy],HYC.out W' h3.b⟩
 have CP2:=Hd (CP.out W2.drew out lg _ fv (HI2.out.below (Below.refl _ _).drew) hn E.r.by'[p] (-1))
 have HBS0:=Hd (HBS.out _ _ _ _ _ (HI2.out.below (Below.refl _ _).drew) (KpC.refl _ _ _ _))
 have hp0:(0:Int)≤(p:Int):=by omega
 have hpl:(p:Int)<E.r.by'.length:=by omega
 have hpyc:(p:Int)<yc:=by omega
 have hwp:IntKind.i64.wrap ((p:Int)+1)=(p:Int)+1:=by rw [IntKind.wrap_i64];omega
 unfold partA at CP2
 clear CP
 generalize hbp:E.r.by'[p]=pp at *
 clear hbp
 obtain ⟨pk,pn,pw⟩:=pp
 simp only [] at HBS CP2 HYES HYC HBS0
 go_upto_region 10 with (fail)
 clear m0 c8
 go_region_held3 (fun W'=>W'.cell? ⟨gm,0,none⟩=some (.pointer (some ⟨E.g,0,none⟩))∧W'.cell? ⟨E.g,4,none⟩=some (.slice (some ⟨yb,yo,none⟩) E.r.by'.length yc)∧W'.cell? ⟨yb,yo+p*3,none⟩=some (.int .u8 (pk:Int))∧W'.cell? ⟨yb,yo+p*3+1,none⟩=some (.int .i64 pn)∧W'.cell? ⟨yb,yo+p*3+2,none⟩=some (.string pw)) (first | exact HBS0.out | exact HB6.out) ((go_at_call 39;(with_reducible refine CP2.out.mono ?_);(intro e w6 h6;obtain ⟨o1,l1,v1,f1,u,rfl,_,hgo1,hol1,hi1,hk1⟩:=h6.out;have HB6:=Hd (HBS.out w6 o1 l1 v1 f1 hi1 hk1);(try dsimp only))))
 have HGO1:=Hd hgo1
 have HI1:=Hd hi1
 have HK1:=Hd (((KpC.of_below HB2.out).trans (KpC.of_below (Below.refl _ _).drew)).trans hk1)
 clear hgo1 hi1 hk1 h6 HB6 HBS HBS0 CP2
 go_wp2_with fail
 go_loopw [12,13] (fun nv kv wr=>wnRel w0 E n q kp (endB E.r.by' p) ((pk,pn,pw),-1) MK out lg (.slice oa out.length oc) fv W nv kv wr) (fun _ kv _=>endB E.r.by' p-(intOf kv).toNat)
 case atStart=>exact ⟨0,n,[],[],o1,l1,v1,f1,rfl,by rw [HKS.out.z];push_cast;rfl,Nat.zero_le _,by rw [HKS.out.z];exact HMK.out,by rw [HKS.out.z];have:=HFU.out;omega,Nat.le_refl _,rowsB_nil,HGO1.out,hol1,HI1.out,HK1.out⟩
 case round =>
  obtain ⟨c,N,M,us,out',lg',ov',fv',rfl,rfl,hc,hM,hN,hNn,hus,hgo,hol,hii,hkk⟩:=hrel
  have HM:=Hd hM
  have HUS:=Hd hus
  have HN:=Hd hN
  have HNN:=Hd hNn
  have HGO:=Hd hgo
  have HII:=Hd hii
  have HKK:=Hd hkk
  clear hM hN hNn hus hgo hii hkk
  obtain ⟨N,rfl⟩:∃ N',N=N'+1:=⟨N-1,by have:=HN.out;omega⟩
  have HWW:=Hd (HWK.out.kc HI.out HKK.out)
  obtain ⟨m0,m1,m2⟩:=HWW.out.cells
  obtain ⟨eb2,eo2,e',y1,y2,hce⟩:=ints_at HWW.out.r (Below.refl _ _) (by rw [endsL_length];omega)
  simp only [Option.some.injEq,Addr.mk.injEq,and_true] at e'
  obtain ⟨rfl,rfl⟩:=e'
  clear y1 y2
  have cp:=hce _ _ (endsL_get (l:=E.r.by') (j:=p) hp)
  rw [endsL_length] at m1
  by_cases hlt:c<q
  case neg =>
   obtain rfl:c=q:=by omega
   have hkq:=HKS.out.e
   have hM:=HM.out
   rw [hkq,mk_end,List.append_nil] at hM
   have hcn:cntP (MK.map (·.1))=us.length:=by rw [← hM];exact cntP_of HUS.out
   rw [hcn] at HYES
   rw [hM] at HGO
   have hkq':¬ (kp c:Int)<(endB E.r.by' p:Int):=by rw [hkq];omega
   obtain ⟨c0,c1,c2,c3,c4,c5,c6,c7,c8,c9,c10,cz⟩:=HII.out.s.cells
   clear c0 c1 c2 c3 c4 c5 c6 c7 c9 cz hce hM
   cases lg' with
   | true =>
    have HX:=Hd (HYES.out wr out' true ov' fv' (HGO.out.same (by simp)) hol HII.out HKK.out)
    clear c8
    generalize kp c=kc at *
    generalize endB E.r.by' p=ei at *
    go_wp2_with fail
    exact HX.out
   | false =>
    obtain ⟨hlg,hlen2⟩:lg=false∧out.length+(((pk,pn,pw),(-1:Int))::MK).length≤131073:=by
     apply Classical.byContradiction
     intro h
     have:=HGO.out.2 h
     cases this
    obtain ⟨_,rfl⟩:=HGO.out.1 ⟨hlg,hlen2⟩
    obtain ⟨oa2,on2,oc2,hov⟩:=owns_slice HII.out.o
    subst hov
    obtain rfl:on2=(out++((pk,pn,pw),(-1:Int))::MK).length:=by
     obtain ⟨_,_,_,e,_⟩:=Row.of_owns HII.out.o
     simp only [Value.slice.injEq] at e
     exact e.2.1
    obtain ⟨gO,rfl⟩:=ownsRow_some HII.out.o (by simp;omega)
    have hoc2:(out++((pk,pn,pw),(-1:Int))::MK).length≤oc2:=by
     obtain ⟨_,_,_,e,h,_⟩:=Row.of_owns HII.out.o
     simp only [Value.slice.injEq] at e
     omega
    obtain ⟨k1,k2,k3⟩:=HII.out.kids (us.length:Int)
    have HX:=Hd (HYES.out _ _ _ _ _ ⟨fun _=>⟨rfl,rfl⟩,fun h=>absurd ⟨hlg,by simpa using hlen2⟩ h⟩ (by simpa using hol) k3 (HKK.out.setO rfl (out.length*3+1) (.int .i64 (us.length:Int))))
    have hol1:(out.length:Int)<((out++((pk,pn,pw),(-1:Int))::MK).length:Int):=by rw [List.length_append,List.length_cons];push_cast;omega
    have hol2:(out.length:Int)<(oc2:Int):=by rw [List.length_append,List.length_cons] at hoc2;omega
    have hol0:(0:Int)≤(out.length:Int):=by omega
    clear k3 HGO hlen2 hol
    generalize (out++((pk,pn,pw),(-1:Int))::MK).length=on at *
    generalize kp c=kc at *
    generalize endB E.r.by' p=ei at *
    go_wp2_with fail
    exact HX.out
  have hx:=HKS.out.lt c hlt
  have hup:=HKS.out.up c hlt
  have hle:=HKS.out.le (c+1) hlt
  have hnx:=HKS.out.nx c hlt
  have hNo:=HN.out
  have hM:=HM.out
  rw [mk_next (show kp c≠endB E.r.by' p by omega),hnx] at hM
  have hml:=congrArg List.length hM
  have hln:=HLN.out
  rw [List.length_append,List.length_append] at hml
  rw [List.length_cons] at hln
  have CI:=Hd (HIH.out N (by have:=HNN.out;omega) wr out' lg' ov' fv' (kp c) HII.out HWW.out hol hx (by rw [hnx];omega) (by show (mkM E N (kp c)).length≤_;unfold mkM;omega))
  obtain ⟨ts,hts⟩:=mPart_rows (t:=E.r.by') (hs:=E.r.holes) HRB.out HRV.out N (kp c)
  have hcnt:cntP ((mkM E N (kp c)).map (·.1))=ts.length:=cntP_of hts
  rw [hcnt] at CI
  have hul:us.length≤2000000000000:=by
   have h1:=(rowsB_sum HUS.out).2.1
   rw [List.length_map] at h1
   omega
  have htl2:ts.length≤2000000000000:=by
   have h1:=(rowsB_sum hts).2.1
   rw [List.length_map] at h1
   omega
  have hwu:IntKind.i64.wrap ((us.length:Int)+(ts.length:Int))=(us.length:Int)+(ts.length:Int):=by rw [IntKind.wrap_i64];omega
  have HXX:RowKit.Hid (∀ w6 o2 l2 v2 f2,mkGo out' lg' (mkM E N (kp c)) o2 l2→o2.length≤131073→MkIn w0 E o2 l2 v2 f2 w6→KpC E.g ov' fv' v2 f2 wr w6→wnRel w0 E n q kp (endB E.r.by' p) ((pk,pn,pw),-1) MK out lg (.slice oa out.length oc) fv W (.int .i64 ((us.length:Int)+(ts.length:Int))) (.int .i64 (endB E.r.by' (kp c):Int)) w6):=Hd fun w6 o2 l2 v2 f2 h1 h2 h3 h4=>⟨c+1,N,M++mkM E N (kp c),us++ts,o2,l2,v2,f2,by rw [List.length_append];push_cast;rfl,by rw [hnx],hlt,by rw [List.append_assoc];exact hM,by omega,by have:=HNN.out;omega,by rw [List.map_append];exact rowsB_app HUS.out hts,by rw [← List.cons_append];exact HGO.out.app h1,h2,h3,HKK.out.trans h4⟩
  have HRC:RowKit.Hid (∀ w6 o2 l2 v2 f2,MkIn w0 E o2 l2 v2 f2 w6→KpC E.g ov' fv' v2 f2 wr w6→w6.cell? ⟨gy,0,none⟩=some (.slice (some ⟨eb,eo,none⟩) E.r.by'.length vc)∧w6.cell? ⟨eb,eo+kp c,none⟩=some (.int .i64 (endB E.r.by' (kp c):Int))):=Hd fun w6 o2 l2 v2 f2 h3 h4=>by
   have hw6:=HWW.out.kc HII.out h4
   obtain ⟨eb2,eo2,e',_,_,hce2⟩:=ints_at hw6.r (Below.refl _ _) (by rw [endsL_length];omega)
   simp only [Option.some.injEq,Addr.mk.injEq,and_true] at e'
   obtain ⟨rfl,rfl⟩:=e'
   refine ⟨?_,hce2 _ _ (endsL_get (l:=E.r.by') (j:=kp c) hx)⟩
   have:=hw6.cells.2.1
   rwa [endsL_length] at this
  have hms:RowKit.Hid (endB E.r.by' p-endB E.r.by' (kp c)<endB E.r.by' p-kp c):=Hd (by rw [hnx];omega)
  have hke:(kp c:Int)<(endB E.r.by' p:Int):=by omega
  have hk0:(0:Int)≤(kp c:Int):=by omega
  have hkl:(kp c:Int)<E.r.by'.length:=by omega
  have hkv:(kp c:Int)<vc:=by omega
  clear hx hup hle hnx hNo hM hml hln HM HN hts hcnt hce
  generalize endB E.r.by' (kp c)=ek at *
  generalize kp c=kc at *
  generalize endB E.r.by' p=ei at *
  go_wp2_with fail
  refine CI.out.mono ?_
  intro e w6 h6
  obtain ⟨o2,l2,v2,f2,u,rfl,rfl,hgo2,hol2,hi2,hk2⟩:=h6.out
  have HX:=Hd (HXX.out w6 o2 l2 v2 f2 hgo2 hol2 hi2 hk2)
  obtain ⟨g1,g2⟩:=HRC.out w6 o2 l2 v2 f2 hi2 hk2
  clear hgo2 hi2 hk2 h6 m0 m1 m2 cp
  go_wp2_with fail
  exact ⟨HX.out,by have:=hms.out;simp only [intOf];omega⟩
theorem wk_all (w0:World) (E:MkE) (F:MkF w0 E) (gm gy gw:Nat) (vy:Value):∀ n,WalkC w0 E gm gy gw vy n:=by
 intro n
 induction n using Nat.strongRecOn with
 | ind n ih =>
  intro W out lg ov fv p hi hw hn hp hf hlen
  have hg:=(endB_gt (well_rows (rule_holes F.rz).2.1.well) hp).1
  obtain ⟨m,rfl⟩:∃ m,n=m+1:=⟨n-1,by omega⟩
  cases ho:holeOf E.r.by' E.r.holes p with
  | some h=>exact wk_hole w0 E F gm gy gw vy m W out lg ov fv p hi hw hn hp h ho
  | none=>exact wk_none w0 E F gm gy gw vy m ih W out lg ov fv p hi hw hn hp hf hlen ho
end Go.Proofs.YtmklemelgdilkaaGreatDoor
namespace Go.Proofs.YtmklemelgdilkaaGreatDoor
set_option linter.all false
attribute [local irreducible] Calls
attribute [local irreducible] wpStill
open Go.RowKit

@[irreducible] def makesPost (O:List PN) (w0:World) (e:Ending) (w':World):Prop :=
 Below w0.heap.size w0 w'∧if 131072<O.length then e=.returned (.tuple #[.slice none 0 0,.slice none 0 0,.bool false])
  else ∃ ov nv,e=.returned (.tuple #[ov,nv,.bool true])∧PartRow w' ov (O.map (·.1))∧RowInts w' nv .i64 (O.map (·.2))
theorem tail_row {W:World} {g n cap sz:Nat} {x:List Value} {xs:List Value} (h:Row W (.slice (some ⟨g,0,none⟩) (n+1) cap) (n+1) sz (x++xs)) (hx:x.length=sz) (hg:g<W.heap.size):Row W (.slice (some ⟨g,sz,none⟩) n (cap-1)) n sz xs:=by
 obtain ⟨h1,a,c,hv,hc,h2,h3⟩:=h
 simp only [Value.slice.injEq,true_and] at hv
 obtain ⟨rfl,rfl⟩:=hv
 rw [List.length_append,Nat.add_one_mul] at h1
 refine ⟨by omega,some ⟨g,sz,none⟩,cap-1,rfl,by omega,(fun e=>nomatch e),fun _=>⟨g,sz,rfl,hg,fun i hi=>?_⟩⟩
 obtain ⟨b,o,e1,_,e3⟩:=h3 (by omega)
 simp only [Option.some.injEq,Addr.mk.injEq,and_true] at e1
 obtain ⟨rfl,rfl⟩:=e1
 have:=e3 (sz+i) (by rw [Nat.add_one_mul];omega)
 rw [Nat.zero_add] at this
 rw [this,List.getElem?_append_right (by omega),hx]
 congr 1;omega
theorem tail_none {W:World} {g sz:Nat}:Row W (.slice (some ⟨g,0,none⟩) 0 0) 0 sz []:=⟨by simp,some ⟨g,0,none⟩,0,rfl,Nat.le_refl _,(fun e=>nomatch e),fun h=>absurd h (by decide)⟩
set_option maxRecDepth 100000 in
set_option maxHeartbeats 16000000 in
theorem ref_Makes (r:RuleM) (hr:ruleZ r=0) (hsm:SmallR r) (vh vf vb:Value) (l:List Prt) (hl:l.length≤1048576) (vl vq:Value) (bs:List Bnd) (hrt:rightB r l bs=true) (w:World) (hin:RuleIn w r vh vf vb) (hlr:PartRow w vl l) (hrb:BindRow w vq bs) :
  Calls Tryz.prog 24 #[ruleAgg r vh vf vb,vl,vq] w (makesPost (outP r l bs) w):=by
 have hno:RowKit.Hid (131072<(outP r l bs).length→∀ w',Below w.heap.size w w'→makesPost (outP r l bs) w (.returned (.tuple #[.slice none 0 0,.slice none 0 0,.bool false])) w'):=Hd fun h w' hb=>by
  unfold makesPost;rw [if_pos h];exact ⟨hb,rfl⟩
 have hyes:RowKit.Hid (¬ 131072<(outP r l bs).length→∀ w' ov nv,Below w.heap.size w w'→PartRow w' ov ((outP r l bs).map (·.1))→RowInts w' nv .i64 ((outP r l bs).map (·.2))→makesPost (outP r l bs) w (.returned (.tuple #[ov,nv,.bool true])) w'):=Hd fun h w' ov nv hb h1 h2=>by
  unfold makesPost;rw [if_neg h];exact ⟨hb,ov,nv,rfl,h1,h2⟩
 generalize makesPost (outP r l bs) w=Q at *
 have hol:=outP_len hr l bs
 have hn:=(rightB_iff.1 hrt).1
 have hbi:=right_in hrt
 have HROOT:=Hd (fun hg=>made_root hr hg l bs)
 have HOP:RowKit.Hid (r.goal≠3→outP r l bs=madeP r l bs):=Hd fun h=>by unfold outP;rw [if_neg h]
 have C1:=Hd (fun W (hb:Below w.heap.size w W)=>ref_Size r hr hsm vh vf vb l hl vq bs hn hbi W (hin.below hb) (hrb.below hb))
 have ok:InOK r.by' l r.holes bs:=⟨(rule_holes hr).2.1,hn,hbi,fun h=>right_rows hrt h,hsm.b.1,hl,hsm.h.1⟩
 have h0:=well_zero ok.H.well
 have CI:RowKit.Hid ((madeP r l bs).length≤1000000000→∀ W,Below w.heap.size w W→Calls Tryz.prog 45 #[vb,vh,vq,vl,.int .i64 0] W (instPost (madeP r l bs) W)):=Hd fun hlen W hb=>by
  have:=ref_Inst ok vb vh vq vl (fuelZ r.by') W 0 ⟨hin.B.below hb,hin.H.below hb,hrb.below hb,hlr.below hb⟩ h0.1 (by rw [h0.2];unfold fuelZ;omega) (by unfold madeP at hlen;exact hlen)
  exact this
 obtain ⟨ah,ch,rfl,hch⟩:=Row.shape hin.H
 obtain ⟨af,cf,rfl,hcf⟩:=hin.F.slice
 obtain ⟨ab,cb,rfl,hcb⟩:=hin.B.slice
 have HR1:RowKit.Hid (RK (w.alloc (.cells #[.string r.nm,.int .u8 (r.goal:Int),.slice ah r.holes.length ch,.slice af r.fnd.length cf,.slice ab r.by'.length cb] 35)) w.heap.size r.nm r.goal (.slice ah r.holes.length ch) (.slice af r.fnd.length cf) (.slice ab r.by'.length cb)):=Hd (heap_alloc_new _ _)
 have HB1:RowKit.Hid (Below w.heap.size w (w.alloc (.cells #[.string r.nm,.int .u8 (r.goal:Int),.slice ah r.holes.length ch,.slice af r.fnd.length cf,.slice ab r.by'.length cb] 35))):=Hd ((Below.refl _ _).alloc (Nat.le_refl _) _)
 have hgl:=hsm.g
 clear hin hrb hlr hbi hrt ok h0 hsm hr
 unfold ruleAgg at C1 ⊢
 go_enter Tryz.func24,Tryz.ntmps24
 go_upto_region 1 with (fail)
 generalize w.alloc (.cells #[.string r.nm,.int .u8 (r.goal:Int),.slice ah r.holes.length ch,.slice af r.fnd.length cf,.slice ab r.by'.length cb] 35)=W1 at *
 obtain ⟨gr,hgr⟩:∃ gr,w.heap.size=gr:=⟨_,rfl⟩
 rw [hgr] at HR1 ⊢
 clear hgr
 obtain ⟨e0,e1,e2,e3,e4⟩:=HR1.out.cells
 have C1x:=Hd (C1.out W1 HB1.out)
 go_wp2_with fail
 refine C1x.out.mono ?_
 intro e w2 h2
 obtain ⟨n,rfl,hn4,hnt,hb2⟩:=h2.out
 have HB2:=Hd (bthen HB1.out hb2)
 have HRW:=Hd (fun (W':World) (hb:Below w2.heap.size w2 W')=>(HR1.out.below (bthen hb2 hb)).cells)
 clear h2 hb2 C1 C1x e0 e1 e2 e3 e4
 obtain ⟨e0,e1,e2,e3,e4⟩:=HRW.out w2 (Below.refl _ _)
 clear e0 e3
 have HNT:=Hd hnt
 have HOL:=Hd hol
 clear hnt hol
 generalize hMM:madeP r l bs=MM at *
 clear hMM
 generalize hOO:outP r l bs=OO at *
 clear hOO
 by_cases hg:r.goal=3
 ·have hwn:IntKind.i64.wrap ((n:Int)-1)=(n:Int)-1:=by rw [IntKind.wrap_i64];omega
  have hg3:(r.goal:Int)=3:=by omega
  have hol:=HOL.out
  rw [if_pos hg] at hol
  obtain ⟨x,hm1⟩:∃ x,MM=x::OO:=by
   obtain ⟨x,M2,h1,_,h2⟩:=HROOT.out hg
   exact ⟨x,by rw [h1,h2]⟩
  rw [hg3] at e1 HRW
  clear hg3
  by_cases hbig:(131072:Int)<(n:Int)-1
  ·have HX:=Hd (hno.out (by have:=HNT.out;omega) w2 HB2.out)
   clear e2 e4
   go_wp2_with fail
   exact HX.out
  have hlen:MM.length≤131073:=by have:=HNT.out;omega
  have HY:=Hd (hyes.out (by omega))
  have CIx:=Hd (CI.out (by omega) w2 HB2.out)
  rw [hm1] at CIx
  clear hol hm1
  go_wp2_with fail
  refine CIx.out.mono ?_
  intro e w3 h3
  unfold instPost at h3
  obtain ⟨ov,nv,rfl,hb3,ho3,hn3⟩:=h3
  obtain ⟨oa,oc,rfl,hoc⟩:=Row.shape (Row.of_owns ho3)
  obtain ⟨na,nc,rfl,hnc⟩:=Row.shape (Row.of_owns hn3)
  obtain ⟨og,rfl⟩:=ownsRow_some ho3 (by simp)
  obtain ⟨ng,rfl⟩:=ownsRow_some hn3 (by simp)
  have hog:=(ho3.lt og rfl).2
  have hng:=(hn3.lt ng rfl).2
  have HO:RowKit.Hid (PartRow w3 (.slice (some ⟨og,3,none⟩) OO.length (oc-1)) (OO.map (·.1))):=Hd (by
   have h:=Row.of_owns ho3
   have h2:=tail_row (x:=partV x.1) (xs:=partsV (OO.map (·.1))) (n:=OO.length) (sz:=3) (by simpa [partsV] using h) rfl hog
   unfold PartRow;rw [List.length_map];exact h2)
  have HN:RowKit.Hid (RowInts w3 (.slice (some ⟨ng,1,none⟩) OO.length (nc-1)) .i64 (OO.map (·.2))):=Hd (by
   have h:=Row.of_owns hn3
   have h2:=tail_row (x:=[.int .i64 x.2]) (xs:=intsV (OO.map (·.2))) (n:=OO.length) (sz:=1) (by simpa [intsV] using h) rfl hng
   unfold RowInts;rw [List.length_map];exact h2)
  have HO0:RowKit.Hid (oc=1→OO=[]):=Hd fun h=>by
   simp only [List.length_cons] at hoc
   exact List.eq_nil_of_length_eq_zero (by omega)
  have HN0:RowKit.Hid (nc=1→OO=[]):=Hd fun h=>by
   simp only [List.length_cons] at hnc
   exact List.eq_nil_of_length_eq_zero (by omega)
  have HB3:=Hd (bthen HB2.out hb3)
  obtain ⟨e0,e1,e2,e3,e4⟩:=HRW.out w3 hb3
  have hmc:1≤(OO.length:Int)+1:=by omega
  clear e0 e2 e3 e4 hb3 ho3 hn3 hog hng CIx
  simp only [List.length_cons] at hoc hnc
  have hoc2:(1:Int)≤(oc:Int):=by omega
  have hnc2:(1:Int)≤(nc:Int):=by omega
  have HBD:=Hd (HB3.out.drew)
  by_cases ho1:oc=1
  ·have hM:=HO0.out ho1
   subst hM
   by_cases hn1:nc=1
   ·have HX:=Hd (HY.out w3.drew (.slice (some ⟨og,0,none⟩) 0 0) (.slice (some ⟨ng,0,none⟩) 0 0) HBD.out tail_none tail_none)
    go_upto_region 8 with (fail)
    clear e1
    go_still_tail 6,(by kernel_rfl)
    go_wp2_with fail
    exact HX.out
   ·have HX:=Hd (HY.out w3.drew (.slice (some ⟨og,0,none⟩) 0 0) (.slice (some ⟨ng,1,none⟩) 0 (nc-1)) HBD.out tail_none (RowInts.below HN.out (Below.refl _ _).drew))
    go_upto_region 8 with (fail)
    clear e1
    go_still_tail 6,(by kernel_rfl)
    go_wp2_with fail
    exact HX.out
  ·by_cases hn1:nc=1
   ·have hM:=HN0.out hn1
    subst hM
    have HX:=Hd (HY.out w3.drew (.slice (some ⟨og,3,none⟩) 0 (oc-1)) (.slice (some ⟨ng,0,none⟩) 0 0) HBD.out (PartRow.below HO.out (Below.refl _ _).drew) tail_none)
    go_upto_region 8 with (fail)
    clear e1
    go_still_tail 6,(by kernel_rfl)
    go_wp2_with fail
    exact HX.out
   ·have HX:=Hd (HY.out w3.drew (.slice (some ⟨og,3,none⟩) OO.length (oc-1)) (.slice (some ⟨ng,1,none⟩) OO.length (nc-1)) HBD.out (PartRow.below HO.out (Below.refl _ _).drew) (RowInts.below HN.out (Below.refl _ _).drew))
    go_upto_region 8 with (fail)
    clear e1
    go_still_tail 6,(by kernel_rfl)
    go_wp2_with fail
    exact HX.out
 ·have hg3:((r.goal:Int) == 3)=false:=by rw [beq_eq_false_iff_ne];omega
  have hol:=HOL.out
  rw [if_neg hg] at hol
  have hOM:=HOP.out hg
  clear hg
  by_cases hbig:(131072:Int)<(n:Int)
  ·have HX:=Hd (hno.out (by have:=HNT.out;omega) w2 HB2.out)
   clear e2 e4 hol hOM
   go_wp2_with fail
   exact HX.out
  have hlen:MM.length≤131073:=by have:=HNT.out;omega
  have HY:=Hd (hyes.out (by have:=HNT.out;omega))
  have CIx:=Hd (CI.out (by omega) w2 HB2.out)
  subst hOM
  clear hol
  go_wp2_with fail
  refine CIx.out.mono ?_
  intro e w3 h3
  unfold instPost at h3
  obtain ⟨ov,nv,rfl,hb3,ho3,hn3⟩:=h3
  have HX:RowKit.Hid (Q (.returned (.tuple #[ov,nv,.bool true])) w3):=Hd (HY.out w3 ov nv (bthen HB2.out hb3) (by
   have h:=Row.of_owns ho3
   unfold PartRow;rw [List.length_map];exact h) (RowInts.of_owns (by rw [← List.length_map (f:=(·.2))] at hn3;exact hn3)))
  obtain ⟨e0,e1,e2,e3,e4⟩:=HRW.out w3 hb3
  clear e0 e2 e3 e4 hb3 ho3 hn3 CIx
  go_wp2_with fail
  exact HX.out
end Go.Proofs.YtmklemelgdilkaaGreatDoor
namespace Go.Proofs.YtmklemelgdilkaaGreatDoor
set_option linter.all false
attribute [local irreducible] Calls
open Go.RowKit

set_option maxRecDepth 100000 in
set_option maxHeartbeats 16000000 in
theorem ref_Fill (r:RuleM) (hsm:SmallR r) (vh vf vb:Value) (l:List Prt) (hl:SmallL l) (vl vq:Value) (bs:List Bnd) (hbl:bs.length≤1048576) (w:World) (hin:RuleIn w r vh vf vb) (hlr:PartRow w vl l) (hrb:BindRow w vq bs) :
  Calls Tryz.prog 12 #[ruleAgg r vh vf vb,vl,vq] w (fillPost r l bs w):=by
 have HNO:RowKit.Hid (∀ z w',fillZ r l bs=([],z)→Below w.heap.size w w'→fillPost r l bs w (.returned (.tuple #[.slice none 0 0,.slice none 0 0,.int .i64 z])) w'):=Hd fun z w' h hb=>fillPost.no h hb
 have HYES:RowKit.Hid (∀ w' ov nv,fillZ r l bs=(outP r l bs,0)→Below w.heap.size w w'→PartRow w' ov ((outP r l bs).map (·.1))→RowInts w' nv .i64 ((outP r l bs).map (·.2))→fillPost r l bs w (.returned (.tuple #[ov,nv,.int .i64 0])) w'):=Hd fun w' ov nv h hb h1 h2=>by
  unfold fillPost;rw [h];exact ⟨hb,ov,nv,rfl,h1,h2⟩
 generalize fillPost r l bs w=Q at *
 have hll:=hl.1
 have C1:=Hd (fun W (hb:Below w.heap.size w W)=>ref_Check16 r hsm vh vf vb W (hin.below hb))
 have C2:=Hd (fun W (hb:Below w.heap.size w W)=>ref_Well11 l (by omega) vl W (hlr.below hb))
 have C3:=Hd (fun (hz:ruleZ r=0) W (hb:Below w.heap.size w W)=>ref_Right r (rule_kinds hz) hsm.h.1 vh vf vb l hl vl vq bs hbl W (hin.below hb) (hlr.below hb) (hrb.below hb))
 have C4:=Hd (fun (hz:ruleZ r=0) (ht:rightB r l bs=true) W (hb:Below w.heap.size w W)=>ref_Makes r hz hsm vh vf vb l hll vl vq bs ht W (hin.below hb) (hlr.below hb) (hrb.below hb))
 obtain ⟨ah,ch,rfl,hch⟩:=Row.shape hin.H
 obtain ⟨af,cf,rfl,hcf⟩:=hin.F.slice
 obtain ⟨ab,cb,rfl,hcb⟩:=hin.B.slice
 have HR1:RowKit.Hid (RK (w.alloc (.cells #[.string r.nm,.int .u8 (r.goal:Int),.slice ah r.holes.length ch,.slice af r.fnd.length cf,.slice ab r.by'.length cb] 35)) w.heap.size r.nm r.goal (.slice ah r.holes.length ch) (.slice af r.fnd.length cf) (.slice ab r.by'.length cb)):=Hd (heap_alloc_new _ _)
 have HB1:RowKit.Hid (Below w.heap.size w (w.alloc (.cells #[.string r.nm,.int .u8 (r.goal:Int),.slice ah r.holes.length ch,.slice af r.fnd.length cf,.slice ab r.by'.length cb] 35))):=Hd ((Below.refl _ _).alloc (Nat.le_refl _) _)
 clear hin hlr hrb hsm
 unfold ruleAgg at C1 C3 C4 ⊢
 go_enter Tryz.func12,Tryz.ntmps12
 go_upto_region 1 with (fail)
 generalize w.alloc (.cells #[.string r.nm,.int .u8 (r.goal:Int),.slice ah r.holes.length ch,.slice af r.fnd.length cf,.slice ab r.by'.length cb] 35)=W1 at *
 obtain ⟨gr,hgr⟩:∃ gr,w.heap.size=gr:=⟨_,rfl⟩
 rw [hgr] at HR1 ⊢
 clear hgr
 obtain ⟨e0,e1,e2,e3,e4⟩:=HR1.out.cells
 have C1x:=Hd (C1.out W1 HB1.out)
 go_wp2_with fail
 refine C1x.out.mono ?_
 rintro e w2 ⟨rfl,hb2⟩
 have HB2:=Hd (bthen HB1.out hb2)
 have HR2:=Hd (HR1.out.below hb2)
 clear hb2 C1 C1x e0 e1 e2 e3 e4 HR1
 by_cases hz:ruleZ r=0
 case neg =>
  have HX:=Hd (HNO.out _ w2 (fill_err hz) HB2.out)
  have g1:(ruleZ r != 0)=true:=by rw [bne_iff_ne];exact hz
  have g2:(ruleZ r == 0)=false:=by rw [beq_eq_false_iff_ne];exact hz
  clear hz
  generalize ruleZ r=z at *
  go_wp2_with fail
  exact HX.out
 have HZ:=Hd hz
 rw [hz]
 clear hz
 have C2x:=Hd (C2.out w2 HB2.out)
 go_wp2_with fail
 refine C2x.out.mono ?_
 rintro e w3 ⟨rfl,rfl⟩
 rename World=>w3
 clear C2 C2x
 cases hw:wellB l with
 | false =>
  have HX:=Hd (HNO.out _ _ (fill_tree HZ.out hw) HB2.out)
  clear hw
  go_wp2_with fail
  exact HX.out
 | true =>
 have HW:=Hd hw
 clear hw
 obtain ⟨e0,e1,e2,e3,e4⟩:=HR2.out.cells
 have C3x:=Hd (C3.out HZ.out _ HB2.out)
 go_wp2_with fail
 refine C3x.out.mono ?_
 rintro e w4 ⟨rfl,hb4⟩
 have HB4:=Hd (bthen HB2.out hb4)
 have HR4:=Hd (HR2.out.below hb4)
 clear hb4 C3 C3x e0 e1 e2 e3 e4
 cases hrt:rightB r l bs with
 | false =>
  have HX:=Hd (HNO.out _ w4 (fill_arg HZ.out HW.out hrt) HB4.out)
  clear hrt
  go_wp2_with fail
  exact HX.out
 | true =>
 have HRT:=Hd hrt
 clear hrt
 obtain ⟨e0,e1,e2,e3,e4⟩:=HR4.out.cells
 have C4x:=Hd (C4.out HZ.out HRT.out w4 HB4.out)
 go_wp2_with fail
 refine C4x.out.mono ?_
 intro e w5 h5
 unfold makesPost at h5
 obtain ⟨hb5,h6⟩:=h5
 have HB5:=Hd (bthen HB4.out hb5)
 clear hb5 C4 C4x e0 e1 e2 e3 e4
 by_cases hlong:131072<(outP r l bs).length
 ·rw [if_pos hlong] at h6
  subst h6
  have HX:=Hd (HNO.out _ w5 (fill_long HZ.out HW.out HRT.out hlong) HB5.out)
  clear hlong
  go_wp2_with fail
  exact HX.out
 ·rw [if_neg hlong] at h6
  obtain ⟨ov,nv,rfl,ho,hn⟩:=h6
  have HX:=Hd (HYES.out w5 ov nv (fill_ok HZ.out HW.out HRT.out hlong) HB5.out ho hn)
  clear hlong ho hn
  go_wp2_with fail
  exact HX.out
end Go.Proofs.YtmklemelgdilkaaGreatDoor
