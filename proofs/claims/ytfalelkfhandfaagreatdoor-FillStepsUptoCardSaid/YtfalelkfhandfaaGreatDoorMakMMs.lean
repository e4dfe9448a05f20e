/- Layer 20: the maker's closure, walked. -/
import Derived.Test.YtfalelkfhandfaaGreatDoorMakHMs
import Derived.Test.YtfalelkfhandfaaGreatDoorMakTMs
import Derived.Test.YtfalelkfhandfaaGreatDoorCheckBMs
import Derived.Test.YtfalelkfhandfaaGreatDoorPackMs
import Derived.Test.YtfalelkfhandfaaGreatDoorKpMMs
import Derived.Test.YtfalelkfhandfaaGreatDoorTermMs
import Derived.Test.YtfalelkfhandfaaGreatDoorAppEqMs
import Derived.Test.YtfalelkfhandfaaGreatDoorSwapPMs
import Derived.Test.YtfalelkfhandfaaGreatDoorStillMs
import Derived.Deep.RegionHeld3
import Derived.Test.YtfalelkfhandfaaGreatDoorRightWMs
namespace Go.Proofs.YtfalelkfhandfaaGreatDoor
set_option maxRecDepth 100000
set_option maxHeartbeats 32000000
set_option linter.all false
attribute [local irreducible] Calls
attribute [local irreducible] wpStill
open Go.RowKit

theorem Row.same2 {w w':World} {v:Value} {n sz:Nat} {cs:List Value} (h:Row w v n sz cs) (hk:∀ b,v.ownBlock=some b→b<w.heap.size→b<w'.heap.size∧w'.heap[b]?=w.heap[b]?):Row w' v n sz cs:=by
 obtain ⟨h1,a,cap,hv,hc,hz,h2⟩:=h
 refine ⟨h1,a,cap,hv,hc,hz,fun hn=>?_⟩
 obtain ⟨b,off,ha,hlt,hcell⟩:=h2 hn
 subst ha
 obtain ⟨k1,k2⟩:=hk b (by rw [hv];rfl) hlt
 refine ⟨b,off,rfl,k1,fun i hi=>?_⟩
 rw [← hcell i hi]
 simp only [World.cell?,k2]
structure WkS (E:MkE) (gm gy gw:Nat) (vy:Value) (W:World):Prop where
 m:W.heap[gm]?=some (.cells #[.pointer (some ⟨E.g,0,none⟩)] 58 (0,0))
 y:W.heap[gy]?=some (.cells #[vy] 27 (0,0))
 w:W.heap[gw]?=some (.cells #[.func (.func 39) #[] #[.pointer (some ⟨gm,0,none⟩),.pointer (some ⟨gy,0,none⟩),.pointer (some ⟨gw,0,none⟩)]] 79 (0,0))
 r:zI W vy .i64 (endsL E.r.by')
 lt:gm<E.B∧gy<E.B∧gw<E.B∧gm≠E.g∧gy≠E.g∧gw≠E.g
 rb:∀ b,vy.ownBlock=some b→b<E.B∧b≠E.g
theorem WkS.below {E:MkE} {gm gy gw:Nat} {vy:Value} {W W':World} (h:WkS E gm gy gw vy W) (hb:Below W.heap.size W W'):WkS E gm gy gw vy W' :=
 ⟨keeps hb h.m,keeps hb h.y,keeps hb h.w,h.r.below hb,h.lt,h.rb⟩
theorem WkS.kc {w0:World} {E:MkE} {gm gy gw:Nat} {vy ov fv ov' fv':Value} {out:List PN} {lg:Bool} {W W':World} (h:WkS E gm gy gw vy W) (hi:MkIn w0 E out lg ov fv W) (k:KpC E.g ov fv ov' fv' W W'):WkS E gm gy gw vy W':=by
 have key:∀ b,b<E.B→b≠E.g→W'.heap[b]?=W.heap[b]?:=fun b h1 h2=>k.low b (by have:=hi.B;omega) h2 (fun e=>by have:=(hi.o.lt b e).1;omega) (fun e=>by have:=(hi.f.lt b e).1;omega)
 obtain ⟨l1,l2,l3,l4,l5,l6⟩:=h.lt
 refine ⟨by rw [key gm l1 l4];exact h.m,by rw [key gy l2 l5];exact h.y,by rw [key gw l3 l6];exact h.w,Row.same2 h.r fun b e hlt=>⟨Nat.lt_of_lt_of_le hlt k.size,key b (h.rb b e).1 (h.rb b e).2⟩,h.lt,h.rb⟩
theorem WkS.cells {E:MkE} {gm gy gw:Nat} {vy:Value} {W:World} (h:WkS E gm gy gw vy W):W.cell? ⟨gm,0,none⟩=some (.pointer (some ⟨E.g,0,none⟩))∧W.cell? ⟨gy,0,none⟩=some vy∧W.cell? ⟨gw,0,none⟩=some (.func (.func 39) #[] #[.pointer (some ⟨gm,0,none⟩),.pointer (some ⟨gy,0,none⟩),.pointer (some ⟨gw,0,none⟩)]):=by
 simp [World.cell?,h.m,h.y,h.w]
abbrev mkM (E:MkE) (n p:Nat):List PN:=mPart E.r.by' E.l E.r.holes (bOf E.bs) n p
def WalkC (w0:World) (E:MkE) (gm gy gw:Nat) (vy:Value) (n:Nat):Prop:=∀ (W:World) (out:List PN) (lg:Bool) (ov fv:Value) (p:Nat),MkIn w0 E out lg ov fv W→WkS E gm gy gw vy W→out.length≤131073→p<E.r.by'.length→2*(zC E.r.by' p-p)≤n→(mkM E n p).length≤2000000000000 →
 Calls Tryz.prog 39 #[.int .i64 (p:Int),.pointer (some ⟨gm,0,none⟩),.pointer (some ⟨gy,0,none⟩),.pointer (some ⟨gw,0,none⟩)] W (mkPost w0 E out lg ov fv (mkM E n p) W fun u=>u=.int .i64 (cntP ((mkM E n p).map (·.1)):Int))
def whRel (w0:World) (E:MkE) (f t:Nat) (out:List PN) (lg:Bool) (ov fv:Value) (W2:World) (iv:Value) (wr:World):Prop :=
 ∃ (i:Nat) (out':List PN) (lg':Bool) (ov' fv':Value),iv=.int .i64 (i:Int)∧f≤i∧i≤t∧mkGo out lg (srcL E.l f i) out' lg'∧out'.length≤131073∧MkIn w0 E out' lg' ov' fv' wr∧KpC E.g ov fv ov' fv' W2 wr
theorem mkPost.out {w0:World} {E:MkE} {out:List PN} {lg:Bool} {ov fv:Value} {M:List PN} {W:World} {v:Value→Prop} {e:Ending} {w':World} (h:mkPost w0 E out lg ov fv M W v e w'):∃ out' lg' ov' fv' u,e=.returned u∧v u∧mkGo out lg M out' lg'∧out'.length≤131073∧MkIn w0 E out' lg' ov' fv' w'∧KpC E.g ov fv ov' fv' W w':=by
 unfold mkPost at h;exact h
theorem zZm (w0:World) (E:MkE) (F:MkF w0 E) (gm gy gw:Nat) (vy:Value) (n:Nat) (W:World) (out:List PN) (lg:Bool) (ov fv:Value) (p:Nat) (hi:MkIn w0 E out lg ov fv W) (hw:WkS E gm gy gw vy W) (hn:out.length≤131073) (hp:p<E.r.by'.length) (h:Nat) (ho:zW E.r.by' E.r.holes p=some h) :
  Calls Tryz.prog 39 #[.int .i64 (p:Int),.pointer (some ⟨gm,0,none⟩),.pointer (some ⟨gy,0,none⟩),.pointer (some ⟨gw,0,none⟩)] W (mkPost w0 E out lg ov fv (mkM E (n+1) p) W fun u=>u=.int .i64 (cntP ((mkM E (n+1) p).map (·.1)):Int)):=by
 have hrow:=vT F.rt h
 have hin:=zBg (jK F.rt) h
 rw [show mkM E (n+1) p=srcL E.l (bOf E.bs h).1 (bOf E.bs h).2 from zLg ho,zCw E.l hin.1 hin.2]
 have hhl:h<E.r.holes.length:=(kB ho).1
 have hhb:h<E.bs.length:=by rw [F.bl];exact hhl
 obtain ⟨f,t,hf,ht,hft,htl⟩:∃ f t:Nat,(E.bs[h]).2.1=(f:Int)∧(E.bs[h]).2.2=(t:Int)∧f≤t∧t≤E.l.length:=by
  have:=jK F.rt _ (List.getElem_mem hhb)
  exact ⟨(E.bs[h]).2.1.toNat,(E.bs[h]).2.2.toNat,by omega,by omega,by omega,by omega⟩
 have hbo:bOf E.bs h=(f,t):=by rw [zEb hhb,hf,ht];rfl
 rw [hbo] at hrow ⊢
 simp only [] at hrow ⊢
 obtain ⟨ts,hts⟩:=hrow
 have hll:=F.sl.1
 have HYES:Hid (∀ w' out' lg' ov' fv',mkGo out lg (srcL E.l f t) out' lg'→out'.length≤131073→MkIn w0 E out' lg' ov' fv' w'→KpC E.g ov fv ov' fv' W w'→mkPost w0 E out lg ov fv (srcL E.l f t) W (fun u=>u=.int .i64 (cntP (piece E.l f t):Int)) (.returned (.int .i64 (cntP (piece E.l f t):Int))) w'):=Hd fun w' out' lg' ov' fv' h1 h2 h3 h4=>by
  unfold mkPost;exact ⟨out',lg',ov',fv',_,rfl,rfl,h1,h2,h3,h4⟩
 have C1:=Hd (zRq w0 E F out lg ov fv W hi p hp)
 have CP:=Hd (fun W out lg ov fv (hi:MkIn w0 E out lg ov fv W) hn p nf=>zVx w0 E out lg ov fv W hi hn p nf)
 have CT:=Hd (fun W' (hb:Below w0.heap.size w0 W')=>zGq E.l (by omega) _ (zK F.wl) E.ve f t hft htl W' (F.N.below hb))
 have hcn:yT (piece E.l f t)=(cntP (piece E.l f t):Int):=zJn hts
 have hcl:cntP (piece E.l f t)≤E.l.length:=by
  rw [fK hts]
  have:=(yM hts).2.1
  have h2:=zBy hft htl
  omega
 obtain ⟨la,lc,hvl,hlc⟩:=F.L.slice
 have HLR:Hid (zD w0 (.slice la E.l.length lc) E.l):=Hd (hvl ▸ F.L)
 obtain ⟨ea,ec,hve,hec,_⟩:=F.N.open'
 have hcm:=hw.cells.1
 have HI:=Hd hi
 have HWK:=Hd hw
 have HCN:=Hd hcn
 generalize mkPost w0 E out lg ov fv (srcL E.l f t) W (fun u=>u=.int .i64 (cntP (piece E.l f t):Int))=Q at *
 clear hi hw hts hcn F
 go_enter Tryz.func39,Tryz.ntmps39
 go_wp2_with fail
 refine C1.out.mono ?_
 intro e w1 h1
 unfold mkHolePost at h1
 rw [ho] at h1
 obtain ⟨hb1,hh2,rfl⟩:=h1
 unfold bindA
 rw [hf,ht]
 generalize (E.bs[h]).1=bn
 have HB1:=Hd hb1
 clear hb1 C1 hcm
 have HB2:Hid (Below W.heap.size W (w1.alloc (.cells #[.string bn,.int .i64 (f:Int),.int .i64 (t:Int)] 52))):=Hd (HB1.out.alloc HB1.out.size _)
 have HD2:Hid (BdK (w1.alloc (.cells #[.string bn,.int .i64 (f:Int),.int .i64 (t:Int)] 52)) w1.heap.size (bn,(f:Int),(t:Int))):=Hd (heap_alloc_new _ _)
 have hg1:W.heap.size≤w1.heap.size:=HB1.out.size
 go_upto_region 3 with (fail)
 generalize w1.alloc (.cells #[.string bn,.int .i64 (f:Int),.int .i64 (t:Int)] 52)=W2 at *
 generalize w1.heap.size=g2 at *
 have HI2:=Hd (HI.out.below HB2.out)
 have HW2:=Hd (HWK.out.below HB2.out)
 have hgg:E.g<W.heap.size:=zP HI.out.s
 have hg2:g2<W2.heap.size:=zP HD2.out
 have HG2:Hid (g2≠E.g∧ov.ownBlock≠some g2∧fv.ownBlock≠some g2):=Hd ⟨by omega,fun e=>by have:=(HI.out.o.lt _ e).2;omega,fun e=>by have:=(HI.out.f.lt _ e).2;omega⟩
 obtain ⟨b0,b1,b2⟩:=HD2.out.cells
 simp only [] at b0 b1 b2
 go_wp2_with fail
 clear b0 b1 b2
 go_loopw [8] (fun iv wr=>whRel w0 E f t out lg ov fv W2 iv wr) (fun iv _=>t-(intOf iv).toNat)
 case atStart=>exact ⟨f,out,lg,ov,fv,rfl,Nat.le_refl _,hft,by rw [zVo E.l (Nat.le_refl f)];exact mkGo.nil out lg hn,hn,HI2.out,KpC.refl _ _ _ _⟩
 case round =>
  obtain ⟨i,out',lg',ov',fv',rfl,hfi,hit,hgo,hol,hii,hkk⟩:=hrel
  have HGO:=Hd hgo
  have HII:=Hd hii
  have HKK:=Hd hkk
  clear hgo hii hkk
  have HWW:=Hd (HW2.out.kc HI2.out HKK.out)
  have HDD:Hid (BdK wr g2 (bn,(f:Int),(t:Int))):=Hd (by
   have h:=HD2.out
   unfold BdK at *
   rw [HKK.out.low g2 hg2 HG2.out.1 HG2.out.2.1 HG2.out.2.2];exact h)
  obtain ⟨b0,b1,b2⟩:=HDD.out.cells
  simp only [] at b0 b1 b2
  obtain ⟨m0,m1,m2⟩:=HWW.out.cells
  clear m1 m2
  obtain ⟨c0,c1,c2,c3,c4,c5,c6,c7,c8,c9,c10,cz⟩:=HII.out.s.cells
  clear c0 c1 c2 c3 c4 c7 c8 c9 cz
  rw [hvl] at c5
  rw [hve] at c6
  have HFIN:Hid (mkGo out lg (srcL E.l f t) out' lg'→∀ w',Below wr.heap.size wr w'→Q (.returned (.int .i64 (cntP (piece E.l f t):Int))) w'):=Hd fun h w' hb=>HYES.out w' out' lg' ov' fv' h hol (HII.out.below hb) (((KpC.of_below HB2.out).trans HKK.out).trans (KpC.of_below hb))
  by_cases hlt:i<t∧lg'=false
  case neg =>
   have HFI:=Hd (HFIN.out (by
    by_cases e:i<t
    ·have:lg'=true:=by
      cases lg' with
      | true=>rfl
      | false=>exact absurd ⟨e,rfl⟩ hlt
     subst this
     rw [zVz E.l hfi hit]
     exact HGO.out.long
    ·obtain rfl:i=t:=by omega
     exact HGO.out))
   have HBS:Hid (∀ W',Below wr.heap.size wr W'→(W'.cell? ⟨gm,0,none⟩=some (.pointer (some ⟨E.g,0,none⟩))∧W'.cell? ⟨E.g,6,none⟩=some (.slice ea (endsL E.l).length ec)∧W'.cell? ⟨g2,1,none⟩=some (.int .i64 (f:Int))∧W'.cell? ⟨g2,2,none⟩=some (.int .i64 (t:Int)))):=Hd fun W' hb=>⟨(HWW.out.below hb).cells.1,by rw [(HII.out.below hb).s.cells.2.2.2.2.2.2.1,hve],(HDD.out.keep hb).cells.2.1,(HDD.out.keep hb).cells.2.2⟩
   have CT2:=Hd (CT.out wr.drew (zB HII.out.b (Below.refl _ _).drew))
   rw [hve] at CT2
   have hcase:lg'=true∨¬ (i:Int)<(t:Int):=by
    cases lg' with
    | true=>exact Or.inl rfl
    | false=>exact Or.inr (fun h=>hlt ⟨by omega,rfl⟩)
   clear hlt
   have hwn:=HCN.out
   have HTT:=Hd hwn
   have HRUN:Hid (∀ w',Below wr.heap.size wr w'→Q (.returned (.int .i64 (cntP (piece E.l f t):Int))) w'):=Hd HFI.out
   clear hwn HGO hit hfi
   rcases hcase with rfl | hni
   ·by_cases hlt:(i:Int)<(t:Int)
    all_goals
     go_upto_region 7 with (fail)
     clear b0 b1 b2 m0 c5 c6 c10
     go_region_held3 (fun W'=>W'.cell? ⟨gm,0,none⟩=some (.pointer (some ⟨E.g,0,none⟩))∧W'.cell? ⟨E.g,6,none⟩=some (.slice ea (endsL E.l).length ec)∧W'.cell? ⟨g2,1,none⟩=some (.int .i64 (f:Int))∧W'.cell? ⟨g2,2,none⟩=some (.int .i64 (t:Int))) (exact HBS.out _ (Below.refl _ _).drew) ((go_at_call 36;(with_reducible refine CT2.out.mono ?_);(rintro e w5 ⟨⟨k,x,hkl,rfl,h1,h2⟩,rfl⟩);(try dsimp only)))
     have hkx:k=cntP (piece E.l f t):=by
      cases x with
      | true=>have:=h1 rfl;have:=HTT.out;omega
      | false=>have:=h2 rfl;have:=HTT.out;omega
     have HX:=Hd (HRUN.out wr.drew (Below.refl _ _).drew)
     rw [← hkx] at HX
     clear hkx h1 h2
     go_wp2_with fail
     exact HX.out
   ·go_upto_region 7 with (fail)
    clear b0 b1 b2 m0 c5 c6 c10
    go_region_held3 (fun W'=>W'.cell? ⟨gm,0,none⟩=some (.pointer (some ⟨E.g,0,none⟩))∧W'.cell? ⟨E.g,6,none⟩=some (.slice ea (endsL E.l).length ec)∧W'.cell? ⟨g2,1,none⟩=some (.int .i64 (f:Int))∧W'.cell? ⟨g2,2,none⟩=some (.int .i64 (t:Int))) (exact HBS.out _ (Below.refl _ _).drew) ((go_at_call 36;(with_reducible refine CT2.out.mono ?_);(rintro e w5 ⟨⟨k,x,hkl,rfl,h1,h2⟩,rfl⟩);(try dsimp only)))
    have hkx:k=cntP (piece E.l f t):=by
     cases x with
     | true=>have:=h1 rfl;have:=HTT.out;omega
     | false=>have:=h2 rfl;have:=HTT.out;omega
    have HX:=Hd (HRUN.out wr.drew (Below.refl _ _).drew)
    rw [← hkx] at HX
    clear hkx h1 h2
    go_wp2_with fail
    exact HX.out
  obtain ⟨hlt,rfl⟩:=hlt
  have hll1:i<E.l.length:=by omega
  obtain ⟨lb,lo,rfl,y1,y2,y3,y4⟩:=HLR.out.at HII.out.b (show 0<E.l.length by omega)
  clear y1 y2 y3 y4
  have hpt:zR E.l i=E.l[i]:=by unfold zR;simp [List.getD_eq_getElem?_getD,hll1]
  have HBS:Hid (∀ W',Below wr.heap.size wr W'→(W'.cell? ⟨gm,0,none⟩=some (.pointer (some ⟨E.g,0,none⟩))∧W'.cell? ⟨E.g,5,none⟩=some (.slice (some ⟨lb,lo,none⟩) E.l.length lc)∧W'.cell? ⟨lb,lo+i*3,none⟩=some (.int .u8 ((zR E.l i).1:Int))∧W'.cell? ⟨lb,lo+i*3+1,none⟩=some (.int .i64 (zR E.l i).2.1)∧W'.cell? ⟨lb,lo+i*3+2,none⟩=some (.string (zR E.l i).2.2))):=Hd fun W' hb=>⟨(HWW.out.below hb).cells.1,by rw [(HII.out.below hb).s.cells.2.2.2.2.2.1,hvl],by
   obtain ⟨b2,o2,e',_,_,_,hcc⟩:=HLR.out.at (zB HII.out.b hb) (show 0<E.l.length by omega)
   simp only [Option.some.injEq,Addr.mk.injEq,and_true] at e'
   obtain ⟨rfl,rfl⟩:=e'
   rw [hpt]
   exact hcc i hll1⟩
  have HBF:Hid (∀ W' o2 l2 v2 f2,MkIn w0 E o2 l2 v2 f2 W'→KpC E.g ov' fv' v2 f2 wr.drew W'→(W'.cell? ⟨gm,0,none⟩=some (.pointer (some ⟨E.g,0,none⟩))∧W'.cell? ⟨E.g,5,none⟩=some (.slice (some ⟨lb,lo,none⟩) E.l.length lc)∧W'.cell? ⟨lb,lo+i*3,none⟩=some (.int .u8 ((zR E.l i).1:Int))∧W'.cell? ⟨lb,lo+i*3+1,none⟩=some (.int .i64 (zR E.l i).2.1)∧W'.cell? ⟨lb,lo+i*3+2,none⟩=some (.string (zR E.l i).2.2))):=Hd fun W' o2 l2 v2 f2 h3 h4=>⟨((HWW.out.below (Below.refl _ _).drew).kc (HII.out.below (Below.refl _ _).drew) h4).cells.1,by rw [h3.s.cells.2.2.2.2.2.1,hvl],by
   obtain ⟨b2,o2,e',_,_,_,hcc⟩:=HLR.out.at h3.b (show 0<E.l.length by omega)
   simp only [Option.some.injEq,Addr.mk.injEq,and_true] at e'
   obtain ⟨rfl,rfl⟩:=e'
   rw [hpt]
   exact hcc i hll1⟩
  have CP2:=Hd (CP.out wr.drew out' false ov' fv' (HII.out.below (Below.refl _ _).drew) hol (zR E.l i) (i:Int))
  have HX0:Hid (∀ w6 o2 l2 v2 f2,mkGo out' false [(zR E.l i,(i:Int))] o2 l2→o2.length≤131073→MkIn w0 E o2 l2 v2 f2 w6→KpC E.g ov' fv' v2 f2 wr.drew w6→whRel w0 E f t out lg ov fv W2 (.int .i64 ((i:Int)+1)) w6):=Hd fun w6 o2 l2 v2 f2 h1 h2 h3 h4=>⟨i+1,o2,l2,v2,f2,by push_cast;rfl,by omega,hlt,by rw [zSx E.l hfi];exact HGO.out.app h1,h2,h3,(HKK.out.trans (KpC.of_below (Below.refl _ _).drew)).trans h4⟩
  have hi0:(0:Int)≤(i:Int):=by omega
  have hil:(i:Int)<E.l.length:=by omega
  have hic:(i:Int)<lc:=by omega
  have hiti:(i:Int)<(t:Int):=by omega
  unfold partA at CP2
  clear hpt HFIN CP CT HCN HGO hve hcl HKK
  generalize zR E.l i=pp at *
  obtain ⟨pk,pn,pw⟩:=pp
  simp only [] at HBS CP2 HBF
  go_upto_region 6 with (fail)
  clear b0 b1 b2 m0 c5 c6 c10
  go_region_held3 (fun W'=>W'.cell? ⟨gm,0,none⟩=some (.pointer (some ⟨E.g,0,none⟩))∧W'.cell? ⟨E.g,5,none⟩=some (.slice (some ⟨lb,lo,none⟩) E.l.length lc)∧W'.cell? ⟨lb,lo+i*3,none⟩=some (.int .u8 (pk:Int))∧W'.cell? ⟨lb,lo+i*3+1,none⟩=some (.int .i64 pn)∧W'.cell? ⟨lb,lo+i*3+2,none⟩=some (.string pw)) (first | exact HBS.out _ (Below.refl _ _).drew | exact HB6.out) ((go_at_call 41;(with_reducible refine CP2.out.mono ?_);(intro e w6 h6;obtain ⟨o2,l2,v2,f2,u,rfl,_,hgo2,hol2,hi2,hk2⟩:=h6.out;have HB6:=Hd (HBF.out w6 o2 l2 v2 f2 hi2 hk2));(try dsimp only)))
  have HX:=Hd (HX0.out w6 o2 l2 v2 f2 hgo2 hol2 hi2 hk2)
  clear hgo2 hi2 hk2 h6
  go_wp2_with fail
  exact ⟨HX.out,by simp only [intOf];omega⟩
end Go.Proofs.YtfalelkfhandfaaGreatDoor
namespace Go.Proofs.YtfalelkfhandfaaGreatDoor
set_option maxRecDepth 100000
set_option maxHeartbeats 32000000
set_option linter.all false
attribute [local irreducible] Calls
attribute [local irreducible] wpStill
open Go.RowKit

structure InE (t l:List Prt) (hs:List Hl) (bs:List Bnd) (vt vh vb vl:Value) (w:World):Prop where
 T:zD w vt t
 H:HoleRow w vh hs
 B:BindRow w vb bs
 L:zD w vl l
theorem InE.below {t l:List Prt} {hs:List Hl} {bs:List Bnd} {vt vh vb vl:Value} {w w':World} (h:InE t l hs bs vt vh vb vl w) (hb:Below w.heap.size w w'):InE t l hs bs vt vh vb vl w':=⟨h.T.below hb,h.H.below hb,h.B.below hb,h.L.below hb⟩
structure InOK (t l:List Prt) (hs:List Hl) (bs:List Bnd):Prop where
 H:vP t hs
 n:bs.length=hs.length
 b:BindsIn bs l
 r:∀ h,∃ ts,zG (piece l (bOf bs h).1 (bOf bs h).2)=some ts
 tl:t.length≤1048576
 ll:l.length≤1048576
 hl:hs.length≤1048576
@[irreducible] def instPost (M:List PN) (w0:World) (e:Ending) (w':World):Prop :=
 ∃ v1 v2,e=.returned (.tuple #[v1,v2])∧Below w0.heap.size w0 w'∧w'.ownsRow w0.heap.size 38 3 v1 M.length (zV (M.map (·.1)))∧w'.ownsRow w0.heap.size 3 1 v2 M.length (intsV (M.map (·.2)))
def InstC (t l:List Prt) (hs:List Hl) (bs:List Bnd) (vt vh vb vl:Value) (n:Nat):Prop:=∀ (w:World) (p:Nat),InE t l hs bs vt vh vb vl w→p<t.length→2*(zC t p-p)≤n→(mPart t l hs (bOf bs) n p).length≤1000000000 →
 Calls Tryz.prog 49 #[vt,vh,vb,vl,.int .i64 (p:Int)] w (instPost (mPart t l hs (bOf bs) n p) w)
theorem zRa (w:World) (l:List Prt) (hl:l.length≤1048576) (src:Value) (hr:zD w src l) :
  ∃ v' w',(Builtin.append_ #[23,23] 23 #[.slice (some ⟨w.heap.size,0,none⟩) 0 0,src]).run Tryz.prog (w.alloc (.cells #[] 38))=.ok v' w'∧w'.ownsRow w.heap.size 38 3 v' l.length (zV l)∧Below w.heap.size w w':=by
 obtain ⟨v',w',h1,h2,h3,_⟩:=vV (P:=Tryz.prog) (w.alloc (.cells #[] 38)) 23 23 38 Tryz.underlying23 w.heap.size kD rfl (by decide) _ 0 [] (zCp w w.heap.size 38 3 (Nat.le_refl _)) src l.length (zV l) (Row.below hr ((Below.refl _ _).alloc (Nat.le_refl _) _)) (fC l) (by omega) (by omega) (by simp)
 refine ⟨v',w',h1,by simpa using h2,?_⟩
 exact ((Below.refl _ _).alloc (Nat.le_refl _) _).grown h3 (by simp) (fun q e=>by simp [Value.ownBlock] at e;omega)
def rngV (a n:Nat):List Value:=(List.range' a n).map fun (k:Nat)=>Value.int .i64 (k:Int)
theorem zUg (a n:Nat):rngV a (n+1)=rngV a n++[.int .i64 ((a+n:Nat):Int)]:=by
 unfold rngV
 rw [List.range'_1_concat,List.map_append];rfl
theorem yAe (l:List Prt) (x y:Nat):intsV ((srcL l x y).map (·.2))=rngV x (y-x):=by
 unfold intsV srcL rngV
 rw [List.map_map,List.map_map];rfl
def ihRel (fr tx:Nat) (w1:World) (fv iv:Value) (wr:World):Prop :=
 ∃ i:Nat,iv=.int .i64 (i:Int)∧fr≤i∧i≤tx∧wr.ownsRow w1.heap.size 3 1 fv (i-fr) (rngV fr (i-fr))∧Below w1.heap.size w1 wr
theorem zUh {t l:List Prt} {hs:List Hl} {bs:List Bnd} (ok:InOK t l hs bs) (vt vh vb vl:Value) (n:Nat) (w:World) (p:Nat) (hi:InE t l hs bs vt vh vb vl w) (hp:p<t.length) (h:Nat) (ho:zW t hs p=some h) :
  Calls Tryz.prog 49 #[vt,vh,vb,vl,.int .i64 (p:Int)] w (instPost (mPart t l hs (bOf bs) (n+1) p) w):=by
 rw [zLg ho]
 have hh:h<bs.length:=by rw [ok.n];exact (kB ho).1
 have hbi:=ok.b _ (List.getElem_mem hh)
 have hbl:bs.length≤1048576:=by rw [ok.n];exact ok.hl
 have hll:=ok.ll
 rw [zEb hh]
 simp only []
 have HQ:Hid (∀ v1 v2 w',Below w.heap.size w w'→w'.ownsRow w.heap.size 38 3 v1 ((bs[h]).2.2.toNat-(bs[h]).2.1.toNat) (zV (piece l (bs[h]).2.1.toNat (bs[h]).2.2.toNat))→w'.ownsRow w.heap.size 3 1 v2 ((bs[h]).2.2.toNat-(bs[h]).2.1.toNat) (rngV (bs[h]).2.1.toNat ((bs[h]).2.2.toNat-(bs[h]).2.1.toNat))→instPost (srcL l (bs[h]).2.1.toNat (bs[h]).2.2.toNat) w (.returned (.tuple #[v1,v2])) w'):=Hd fun v1 v2 w' h1 h2 h3=>by
  unfold instPost
  rw [zNa,zCw l (by omega) (by omega),yAe]
  exact ⟨v1,v2,rfl,h1,h2,h3⟩
 generalize instPost (srcL l (bs[h]).2.1.toNat (bs[h]).2.2.toNat) w=Q at *
 have C1:=Hd (zId t hs ok.tl ok.hl p hp vt vh w hi.T hi.H)
 rw [ho] at C1
 simp only [holeI] at C1
 obtain ⟨ba,bc,rfl,hbc⟩:=Row.shape hi.B
 obtain ⟨bb,bo,rfl,_,_,hbb,hcell⟩:=hi.B.at (Below.refl _ _) (show 0<bs.length by omega)
 have HC:Hid (∀ W,Below w.heap.size w W→W.cell? ⟨bb,bo+h*3+1,none⟩=some (.int .i64 (bs[h]).2.1)∧W.cell? ⟨bb,bo+h*3+2,none⟩=some (.int .i64 (bs[h]).2.2)):=Hd fun W hb=>by
  obtain ⟨b',o',e',_,_,_,hcc⟩:=hi.B.at hb (show 0<bs.length by omega)
  simp only [Option.some.injEq,Addr.mk.injEq,and_true] at e'
  obtain ⟨rfl,rfl⟩:=e'
  exact ⟨(hcc h hh).2.1,(hcc h hh).2.2⟩
 obtain ⟨fr,hfr⟩:∃ fr:Nat,(bs[h]).2.1=(fr:Int):=⟨(bs[h]).2.1.toNat,by omega⟩
 obtain ⟨tx,htx⟩:∃ tx:Nat,(bs[h]).2.2=(tx:Int):=⟨(bs[h]).2.2.toNat,by omega⟩
 rw [hfr,htx] at HQ HC hbi
 simp only [Int.toNat_natCast] at HQ
 have h12:fr≤tx:=by omega
 have h2l:tx≤l.length:=by omega
 obtain ⟨sp,sc,hsl,hpr⟩:=zFm w vl l hi.L fr tx h12 h2l
 have hpl:(piece l fr tx).length=tx-fr:=zBy h12 h2l
 have HPR:=Hd hpr
 have HCP:=Hd (fun W (hb:Below w.heap.size w W)=>zRa W (piece l fr tx) (by omega) (.slice sp (tx-fr) sc) (hpr.below hb))
 obtain ⟨ta,tc,rfl,htc⟩:=hi.T.slice
 obtain ⟨ha,hc,rfl,hhc⟩:=Row.shape hi.H
 obtain ⟨la,lc,rfl,hlc⟩:=hi.L.slice
 rw [hpl] at HCP
 have hh0:(0:Int)≤(h:Int):=by omega
 have hhl:(h:Int)<bs.length:=by omega
 have hhb:(h:Int)<(bc:Int):=by omega
 have hft:(fr:Int)≤(tx:Int):=by omega
 have htl:(tx:Int)≤l.length:=by omega
 have hf0:(0:Int)≤(fr:Int):=by omega
 clear hi hcell hfr htx hpr hpl hbi ho
 generalize piece l fr tx=PC at *
 go_enter Tryz.func49,Tryz.ntmps49
 go_wp2_with fail
 refine C1.out.mono ?_
 rintro e w1 ⟨rfl,hb1⟩
 have HB1:=Hd hb1
 obtain ⟨c1,c2⟩:=HC.out w1 hb1
 clear hb1 C1
 go_wp2_with fail
 clear c1 c2
 go_loopw [13,14] (fun fv iv wr=>ihRel fr tx w1 fv iv wr) (fun _ iv _=>tx-(intOf iv).toNat)
 case atStart=>exact ⟨fr,rfl,Nat.le_refl _,h12,by rw [Nat.sub_self];exact World.ownsRow_nil _ _ _ _,Below.refl _ _⟩
 case round =>
  obtain ⟨i,rfl,hfi,hit,hof,hb⟩:=hrel
  obtain ⟨fa,fc,rfl,hfc⟩:=Row.shape (Row.of_owns hof)
  have HB:=Hd hb
  have HOF:=Hd hof
  have HBW:=Hd (zB HB1.out hb)
  obtain ⟨c1,c2⟩:=HC.out wr HBW.out
  clear hb hof hfc
  by_cases hlt:i<tx
  ·have hii:(i:Int)<(tx:Int):=by omega
   have hwi:IntKind.i64.wrap ((i:Int)+1)=(i:Int)+1:=wI (by omega)
   have hbs:=HB.out.size
   have HEQ:Hid (rngV fr (i+1-fr)=rngV fr (i-fr)++[.int .i64 (i:Int)]∧i+1-fr=i-fr+1):=Hd (by
    have e:i+1-fr=i-fr+1:=by omega
    rw [e,zUg,show fr+(i-fr)=i by omega];exact ⟨rfl,rfl⟩)
   go_wp2_with (at_builtin;refine yR wr #[.int .i64 (i:Int)] _ rfl _ _ 27 3 rfl Tryz.underlying27 w1.heap.size xY rfl (by decide) _ _ _ rfl HOF.out 1 1 rfl rfl (by decide) (by intro u hu;simp at hu;subst hu;rfl) (by omega) (by omega) hbs ?_)
   intro v' w' hown hgr _
   have hb':=vZ HB.out hbs HOF.out hgr
   have HX:Hid (ihRel fr tx w1 v' (.int .i64 ((i:Int)+1)) w'):=Hd ⟨i+1,by push_cast;rfl,by omega,hlt,by rw [HEQ.out.1,HEQ.out.2];exact hown,hb'⟩
   clear hown hgr hb' c1 c2
   go_wp2_with fail
   exact ⟨HX.out,by simp only [intOf];omega⟩
  ·obtain rfl:i=tx:=by omega
   have hii:¬ (i:Int)<(i:Int):=by omega
   have HBD:Hid (Below w.heap.size w wr.drew):=Hd HBW.out.drew
   obtain ⟨v',w',hrun,hown,hbl⟩:=HCP.out wr.drew HBD.out
   have HRUN:=Hd (show (Builtin.append_ #[23,23] 23 #[.slice (some ⟨wr.heap.size,0,none⟩) 0 0,.slice sp (i-fr) sc]).run Tryz.prog ((wr.alloc (.cells #[] 38)).drew)=.ok v' w' from hrun)
   have HFIN:=Hd (HQ.out v' (.slice fa (i-fr) fc) w' (zB HBD.out hbl) (jM hown HBW.out.size) (jM (zS (zS HOF.out (Below.refl _ _).drew) hbl) HB1.out.size))
   have HS:Hid (∀ W,Below w.heap.size w W→W.cell? ⟨bb,bo+h*3+1,none⟩=some (.int .i64 (fr:Int))∧W.cell? ⟨bb,bo+h*3+2,none⟩=some (.int .i64 (i:Int))):=Hd HC.out
   have HBL:=Hd (zB HBD.out hbl)
   obtain ⟨va',vn',vc',rfl⟩:=zL hown
   clear hrun hown hbl
   go_upto_region 8 with (fail)
   clear c1 c2
   go_region_held3 (fun W=>W.cell? ⟨bb,bo+h*3+1,none⟩=some (.int .i64 (fr:Int))∧W.cell? ⟨bb,bo+h*3+2,none⟩=some (.int .i64 (i:Int))) (first | exact HS.out _ HBD.out | exact HS.out _ (HBD.out.alloc HBD.out.size _) | exact HS.out _ (HBW.out.alloc HBW.out.size _).drew | exact HS.out _ HBL.out) ((rw [if_pos (by kernel_rfl)];with_reducible (show Oper.wp _ _ _ ((wr.alloc (.cells #[] 38)).drew) _ _);refine yQ _ _ _ _ HRUN.out rfl rfl rfl rfl ?_))
   all_goals
    go_wp2_with fail
    exact HFIN.out
theorem InW.start {w0 w1:World} (hb:Below w0.heap.size w0 w1) (kp:Nat→Nat) (ka:Option Addr) (pk:Nat) (pn:Int) (pw:ByteArray) :
  ((w1.alloc (.cells #[.int .u8 (pk:Int),.int .i64 pn,.string pw] 38)).alloc (.cells #[.int .i64 (-1)] 3)).cell? ⟨w1.heap.size,1,none⟩=some (.int .i64 pn) ∧
  ((w1.alloc (.cells #[.int .u8 (pk:Int),.int .i64 pn,.string pw] 38)).alloc (.cells #[.int .i64 (-1)] 3)).frozen? ⟨w1.heap.size,1,none⟩=false ∧
  InW w0 0 kp ka pk pw [] (.slice (some ⟨w1.heap.size,0,none⟩) 1 1) (.slice (some ⟨w1.heap.size+1,0,none⟩) 1 1) (((w1.alloc (.cells #[.int .u8 (pk:Int),.int .i64 pn,.string pw] 38)).alloc (.cells #[.int .i64 (-1)] 3)).setCell ⟨w1.heap.size,1,none⟩ (.int .i64 0)):=by
 have h1:((w1.alloc (.cells #[.int .u8 (pk:Int),.int .i64 pn,.string pw] 38)).alloc (.cells #[.int .i64 (-1)] 3)).heap[w1.heap.size]?=some (.cells #[.int .u8 (pk:Int),.int .i64 pn,.string pw] 38 (0,0)):=by
  rw [Below.heap_alloc _ _ _ (by simp)];exact heap_alloc_new _ _
 have h2:((w1.alloc (.cells #[.int .u8 (pk:Int),.int .i64 pn,.string pw] 38)).alloc (.cells #[.int .i64 (-1)] 3)).heap[w1.heap.size+1]?=some (.cells #[.int .i64 (-1)] 3 (0,0)):=by
  have:=heap_alloc_new (w1.alloc (.cells #[.int .u8 (pk:Int),.int .i64 pn,.string pw] 38)) (.cells #[.int .i64 (-1)] 3)
  rw [World.size_alloc] at this;exact this
 have h3:Below w0.heap.size w0 ((w1.alloc (.cells #[.int .u8 (pk:Int),.int .i64 pn,.string pw] 38)).alloc (.cells #[.int .i64 (-1)] 3)):=(hb.alloc hb.size _).alloc (by have:=hb.size;simp;omega) _
 generalize (w1.alloc (.cells #[.int .u8 (pk:Int),.int .i64 pn,.string pw] 38)).alloc (.cells #[.int .i64 (-1)] 3)=W2 at *
 have hs:=hb.size
 have e1:=heap_setCell_same W2 w1.heap.size 1 _ _ (.int .i64 0) h1
 have e2:(W2.setCell ⟨w1.heap.size,1,none⟩ (.int .i64 0)).heap[w1.heap.size+1]?=W2.heap[w1.heap.size+1]?:=heap_setCell_other _ _ _ _ (by simp)
 refine ⟨by simp [World.cell?,h1],by simp [World.frozen?,h1],⟨?_,?_,fun c hc=>absurd hc (Nat.not_lt_zero _),h3.setCell (p:=⟨w1.heap.size,1,none⟩) hs _⟩⟩
 ·exact ⟨rfl,Or.inr ⟨w1.heap.size,1,_,rfl,hs,e1,Nat.le_refl _,by decide,rfl,rfl⟩⟩
 ·exact ⟨rfl,Or.inr ⟨w1.heap.size+1,1,_,rfl,by omega,e2.trans h2,Nat.le_refl _,by decide,rfl,rfl⟩⟩
theorem InW.kids {w0 W w5:World} {q kc:Nat} {kp:Nat→Nat} {ka ka':Option Addr} {hk:Nat} {hw:ByteArray} {M:List PN} {ov fv:Value} {ks:List Nat} (h:InW w0 0 kp ka' hk hw M ov fv W) (hb:Below W.heap.size W w5) (ho:w5.ownsRow W.heap.size 3 1 (.slice ka q kc) q (natV ks)) (hks:∀ c,c<q→ks[c]?=some (kp c)):InW w0 q kp ka hk hw M ov fv w5:=by
 have h5:=h.below hb
 refine ⟨h5.o,h5.f,fun c hc=>?_,h5.b⟩
 rcases ho.2 with ⟨_,h0⟩ | ⟨g,cap,cur,hv,hg,hh,hnc,_,hcs,htk⟩
 ·omega
 ·simp only [Value.slice.injEq] at hv
  obtain ⟨rfl,_,rfl⟩:=hv
  refine ⟨g,rfl,fun e=>?_,fun e=>?_,?_⟩
  ·have:=(h.o.lt g e).2;omega
  ·have:=(h.f.lt g e).2;omega
  ·rw [ho.cellAt _ (by omega)]
   unfold natV
   rw [List.getElem?_map,hks c hc];rfl
def inRel (t l:List Prt) (hs:List Hl) (bs:List Bnd) (n q:Nat) (kp:Nat→Nat) (pend:Nat) (ka:Option Addr) (hk:Nat) (hw:ByteArray) (MK:List PN) (w0:World) (ov fv nv:Value) (wr:World):Prop :=
 ∃ (c N:Nat) (M:List PN),nv=.int .i64 (c:Int)∧c≤q∧M++mKids t l hs (bOf bs) N (kp c) pend=MK∧2*(pend-kp c)+1≤N∧N≤n∧(∃ us,zG (M.map (·.1))=some us)∧InW w0 q kp ka hk hw M ov fv wr
theorem zUi {t l:List Prt} {hs:List Hl} {bs:List Bnd} (ok:InOK t l hs bs) (vt vh vb vl:Value) (n:Nat) (ih:∀ m,m<n+1→InstC t l hs bs vt vh vb vl m) (w:World) (p:Nat) (hi:InE t l hs bs vt vh vb vl w) (hp:p<t.length) (hfuel:2*(zC t p-p)≤n+1) (hlen:(mPart t l hs (bOf bs) (n+1) p).length≤1000000000) (ho:zW t hs p=none) :
  Calls Tryz.prog 49 #[vt,vh,vb,vl,.int .i64 (p:Int)] w (instPost (mPart t l hs (bOf bs) (n+1) p) w):=by
 have hho:=ho
 obtain ⟨MK,hMK⟩:∃ MK,mKids t l hs (bOf bs) n (p+1) (zC t p)=MK:=⟨_,rfl⟩
 rw [zCz ho hp,hMK] at hlen
 rw [zCz ho hp,hMK]
 have HQ:Hid (∀ v1 v2 w',Below w.heap.size w w'→w'.ownsRow w.heap.size 38 3 v1 (MK.length+1) (zV (((t[p]).1,(cntP (MK.map (·.1)):Int),(t[p]).2.2)::MK.map (·.1)))→w'.ownsRow w.heap.size 3 1 v2 (MK.length+1) (intsV (-1::MK.map (·.2)))→instPost ((((t[p]).1,(cntP (MK.map (·.1)):Int),(t[p]).2.2),-1)::MK) w (.returned (.tuple #[v1,v2])) w'):=Hd fun v1 v2 w' h1 h2 h3=>by
  unfold instPost
  exact ⟨v1,v2,rfl,h1,h2,h3⟩
 generalize instPost ((((t[p]).1,(cntP (MK.map (·.1)):Int),(t[p]).2.2),-1)::MK) w=Q at *
 obtain ⟨q,kp,KS⟩:=zMq (zK ok.H.well) hp
 have htl:=ok.tl
 have hgf:=zN (zK ok.H.well) hp
 have C1:=Hd (zId t hs ok.tl ok.hl p hp vt vh w hi.T hi.H)
 rw [hho] at C1
 simp only [holeI] at C1
 have CKI:=Hd (fun W (hb:Below w.heap.size w W)=>zFk t (by omega) _ (zK ok.H.well) vt p hp W (hi.T.below hb))
 have HTR:=Hd (fun W (L:List Prt) (v:Value) (h1:L.length≤1000000000) (ts:List Nat) (h2:zG L=some ts) (hr:zD W v L)=>show Calls Tryz.prog 26 #[v] W fun e w'=>e=.returned (.int .i64 (ts.length:Int))∧W=w' by
  have:=fN L h1 v W hr
  rw [show yT L=(ts.length:Int) by unfold yT;rw [h2]] at this
  exact this)
 obtain ⟨ta,tc,rfl,htc⟩:=hi.T.slice
 obtain ⟨ha,hc,rfl,hhc⟩:=Row.shape hi.H
 obtain ⟨ba,bc,rfl,hbc⟩:=Row.shape hi.B
 obtain ⟨la,lc,rfl,hlc⟩:=hi.L.slice
 obtain ⟨tb,tf,rfl,_,_,htb,hcell⟩:=hi.T.at (Below.refl _ _) (show 0<t.length by omega)
 have HC:Hid (∀ W,Below w.heap.size w W→W.cell? ⟨tb,tf+p*3,none⟩=some (.int .u8 ((t[p]).1:Int))∧W.cell? ⟨tb,tf+p*3+1,none⟩=some (.int .i64 (t[p]).2.1)∧W.cell? ⟨tb,tf+p*3+2,none⟩=some (.string (t[p]).2.2)):=Hd fun W hb=>by
  obtain ⟨b',o',e',_,_,_,hcc⟩:=hi.T.at hb (show 0<t.length by omega)
  simp only [Option.some.injEq,Addr.mk.injEq,and_true] at e'
  obtain ⟨rfl,rfl⟩:=e'
  exact hcc p hp
 have HI:=Hd hi
 have HOK:=Hd ok
 have HIH:=Hd ih
 have HKS:=Hd KS
 have HMK:=Hd hMK
 have HFU:=Hd hfuel
 have HLN:=Hd hlen
 have hp0:(0:Int)≤(p:Int):=by omega
 have hpl:(p:Int)<t.length:=by omega
 have hpc:(p:Int)<(tc:Int):=by omega
 have hqn:=KS.n
 clear hi ok ih KS hMK hfuel hlen hcell ho
 generalize t[p]=tp at *
 obtain ⟨pk,pn,pw⟩:=tp
 simp only [] at HC HQ
 go_enter Tryz.func49,Tryz.ntmps49
 go_wp2_with fail
 refine C1.out.mono ?_
 rintro e w1 ⟨rfl,hb1⟩
 have HB1:=Hd hb1
 obtain ⟨c0,c1,c2⟩:=HC.out w1 hb1
 obtain ⟨y1,z1,hW3⟩:=InW.start hb1 kp none pk pn pw
 have HW3:=Hd hW3
 clear hb1 C1 hW3
 go_upto_region 11 with (fail)
 clear c0 c1 c2
 generalize (w1.alloc (.cells #[.int .u8 (pk:Int),.int .i64 pn,.string pw] 38)).alloc (.cells #[.int .i64 (-1)] 3)=W2 at *
 generalize w1.heap.size=g1 at *
 go_upto_region 12 with (fail)
 clear y1 z1
 generalize W2.setCell ⟨g1,1,none⟩ (.int .i64 0)=W3 at *
 have CK:=Hd (CKI.out W3 HW3.out.b)
 clear CKI
 go_wp2_with fail
 refine CK.out.mono ?_
 intro e w5 h5
 unfold kidsOwn at h5
 obtain ⟨kv,rfl,hb5,ho5⟩:=h5
 rw [HKS.out.len] at ho5
 obtain ⟨ka,kc,rfl,hkc⟩:=Row.shape (Row.of_owns ho5)
 have HW5:=Hd (HW3.out.kids hb5 ho5 HKS.out.get)
 clear hb5 ho5 CK HW3
 go_wp2_with fail
 go_loopw [15,16,18] (fun ov fv nv wr=>inRel t l hs bs n q kp (zC t p) ka pk pw MK w ov fv nv wr) (fun _ _ nv _=>q-(intOf nv).toNat)
 case atStart=>exact ⟨0,n,[],rfl,Nat.zero_le _,by rw [HKS.out.z];exact HMK.out,by rw [HKS.out.z];have:=HFU.out;omega,Nat.le_refl _,⟨[],jC⟩,HW5.out⟩
 case round =>
  obtain ⟨c,N,M,rfl,hc,hM,hN,hNn,⟨us,hus⟩,hw⟩:=hrel
  have HW:=Hd hw
  have HM:=Hd hM
  have HUS:=Hd hus
  have HN:=Hd hN
  have HNN:=Hd hNn
  obtain ⟨oa,oc,rfl,hoc⟩:=Row.shape (Row.of_owns hw.o)
  obtain ⟨fa,fc,rfl,hfc⟩:=Row.shape (Row.of_owns hw.f)
  obtain ⟨N,rfl⟩:∃ N',N=N'+1:=⟨N-1,by omega⟩
  clear hw hM hus hN hNn
  by_cases hlt:c<q
  ·obtain ⟨gk,rfl,_,_,k0⟩:=HW.out.k c hlt
   have hx:=HKS.out.lt c hlt
   have hup:=HKS.out.up c hlt
   have hle:=HKS.out.le (c+1) hlt
   have hnx:=HKS.out.nx c hlt
   have hN:=HN.out
   have hMK:=HM.out
   rw [zRo (show kp c≠zC t p by omega),hnx] at hMK
   have hml:=congrArg List.length hMK
   have hln:=HLN.out
   rw [List.length_append,List.length_append] at hml
   rw [List.length_cons] at hln
   have hPL:(mPart t l hs (bOf bs) N (kp c)).length≤1000000000:=by omega
   have hPM:M.length+(mPart t l hs (bOf bs) N (kp c)).length≤1000000000:=by omega
   obtain ⟨ts,hts⟩:=zAq (t:=t) (hs:=hs) (zBg HOK.out.b) HOK.out.r N (kp c)
   have CI:=Hd (HIH.out N (by have:=HNN.out;omega) wr (kp c) (HI.out.below HW.out.b) hx (by rw [hnx];omega) hPL)
   have HF2:Hid (2*(zC t p-kp (c+1))+1≤N):=Hd (by omega)
   have HMK2:=Hd hMK
   have hc0:(0:Int)≤(c:Int):=by omega
   have hcq:(c:Int)<(q:Int):=by omega
   have hck:(c:Int)<(kc:Int):=by omega
   have hwc:IntKind.i64.wrap ((c:Int)+1)=(c:Int)+1:=wI (by omega)
   have HMS:Hid (q-(c+1)<q-c):=Hd (by omega)
   clear hx hup hle hnx hN hMK hml hln HM HN
   generalize mPart t l hs (bOf bs) N (kp c)=P at *
   go_wp2_with fail
   refine CI.out.mono ?_
   intro e w6 h6
   unfold instPost at h6
   obtain ⟨va,vb,rfl,hb6,ha6,hn6⟩:=h6
   obtain ⟨aa,ac,rfl,hac⟩:=Row.shape (Row.of_owns ha6)
   obtain ⟨na,nc,rfl,hnc⟩:=Row.shape (Row.of_owns hn6)
   have hd6:=(Below.refl w6.heap.size w6).drew
   have HB6:=Hd hb6.drew
   have hrp:zD w6.drew (.slice aa P.length ac) (P.map (·.1)):=by
    unfold zD
    rw [List.length_map]
    exact Row.of_owns (zS ha6 hd6)
   have CT:=Hd (HTR.out w6.drew (P.map (·.1)) _ (by rw [List.length_map];exact hPL) ts hts hrp)
   obtain ⟨g,cap,w8,w9,v8,v9,hov,hcap,hcell,hfz,hr8,hr9,hw9⟩:=InW.step (HW.out.below hb6.drew) HUS.out hts (zS ha6 hd6) (zS hn6 hd6) (fun g e=>(HW.out.o.lt g e).2) (fun g e=>(HW.out.f.lt g e).2) hPM
   simp only [Value.slice.injEq,true_and] at hov
   obtain ⟨rfl,rfl⟩:=hov
   obtain ⟨a8,c8,rfl,_⟩:∃ a c,v8=.slice a _ c∧_≤c:=Row.shape (Row.of_owns hw9.o)
   obtain ⟨a9,c9,rfl,_⟩:∃ a c,v9=.slice a _ c∧_≤c:=Row.shape (Row.of_owns hw9.f)
   have HX:Hid (inRel t l hs bs n q kp (zC t p) (some ⟨gk,0,none⟩) pk pw MK w (.slice a8 ((M++P).length+1) c8) (.slice a9 ((M++P).length+1) c9) (.int .i64 ((c:Int)+1)) w9):=Hd ⟨c+1,N,M++P,by push_cast;rfl,hlt,by rw [List.append_assoc];exact HMK2.out,HF2.out,by have:=HNN.out;omega,⟨us++ts,by rw [List.map_append];exact jY HUS.out hts⟩,hw9⟩
   rw [List.length_append] at HX
   have hul:us.length≤1000000000:=by
    have h1:=(yM HUS.out).2.1
    rw [List.length_map] at h1
    omega
   have htl2:ts.length≤1000000000:=by
    have h1:=(yM hts).2.1
    rw [List.length_map] at h1
    omega
   have hwu:IntKind.i64.wrap ((us.length:Int)+(ts.length:Int))=(us.length:Int)+(ts.length:Int):=wI (by omega)
   clear hb6 ha6 hn6 hd6 hrp hw9 hPM hPL CI k0 hts
   go_upto_region 17 with (fail)
   have HTT:Hid True:=Hd trivial
   refine wp_region_noPanic ?_
   refine wp_region_held_drew (S:=fun _=>Hid True) (by kernel_rfl) HTT (fun hHeld=>?_)
   generalize w6.drew=wd at *
   refine tkH 0 90 ?vu1 rfl ?hyu1 hHeld ?restu1
   case hyu1=>intro w q;(try dsimp only at q);go_simp;(try with_reducible rfl)
   (try simp only [aP])
   refine tkH 1 91 ?vu2 rfl ?hyu2 hHeld ?restu2
   case hyu2=>intro w q;(try dsimp only at q);go_simp;(try with_reducible rfl)
   (try simp only [aP])
   refine tkH 2 92 ?vu3 rfl ?hyu3 hHeld ?restu3
   case hyu3=>intro w q;(try dsimp only at q);go_simp;(try with_reducible rfl)
   (try simp only [aP])
   refine tkH 3 93 ?vu4 rfl ?hyu4 hHeld ?restu4
   case hyu4=>intro w q;(try dsimp only at q);go_simp;(try with_reducible rfl)
   (try simp only [aP])
   refine tkH 5 95 ?vu5 rfl ?hyu5 hHeld ?restu5
   case hyu5=>intro w q;(try dsimp only at q);go_simp;(try with_reducible rfl)
   (try simp only [aP])
   refine wpAnyH_ready (rs:=[4,6]) (by kernel_rfl) (by simp) ?_
   refine AllReadyH.cons (o:=⟨some 94,_,_,_,_,_⟩) rfl (fun K hK=>?qA) (AllReadyH.cons (o:=⟨some 96,_,_,_,_,_⟩) rfl (fun K hK=>?qB) AllReadyH.nil)
   case qA =>
    go_simp
    refine hK.out _ _ HTT (fun hH2=>?_)
    clear hK K hHeld
    (try simp only [aP])
    refine wpAnyH_ready (rs:=[6]) (by kernel_rfl) (by simp) ?_
    refine AllReadyH.cons (o:=⟨some 96,_,_,_,_,_⟩) rfl (fun K hK=>?_) AllReadyH.nil
    go_simp
    go_at_call 26
    refine CT.out.mono ?_
    rintro e w4 ⟨rfl,rfl⟩
    (try dsimp only)
    refine hK.out _ _ HTT (fun hH3=>?_)
    clear hK K hH2
    (try simp only [aP])
    refine tkH 7 97 ?vu6 rfl ?hyu6 hH3 ?restu6
    case hyu6=>intro w q;(try dsimp only at q);go_simp;(try with_reducible rfl)
    (try simp only [aP])
    refine tkH 8 98 ?vu7 rfl ?hyu7 hH3 ?restu7
    case hyu7=>intro w q;(try dsimp only at q);go_simp;(try with_reducible rfl)
    (try simp only [aP])
    refine tkH 9 99 ?vu8 rfl ?hyu8 hH3 ?restu8
    case hyu8=>intro w q;(try dsimp only at q);go_simp;(try with_reducible rfl)
    (try simp only [aP])
    refine wpAnyH_ready (rs:=[10]) (by kernel_rfl) (by simp) ?_
    refine AllReadyH.cons (o:=⟨none,_,_,_,_,_⟩) rfl (fun K hK=>?_) AllReadyH.nil
    go_simp
    refine hK.out _ _ HTT (fun hH4=>?_)
    clear hK K hH3
    (try simp only [aP])
    refine wpAnyH_done (by kernel_rfl) ?_ _
    refine NoPanic.normal ?_
    go_upto_region 18 with (fail)
    clear hcell hfz
    go_upto_region 19 with (at_builtin;refine zF rfl _ _ _ _ hr8 rfl rfl rfl rfl ?_)
    clear hr8
    go_wp2_with (at_builtin;refine zF rfl _ _ _ _ hr9 rfl rfl rfl rfl ?_)
    exact ⟨HX.out,by have:=HMS.out;simp only [intOf];omega⟩
   case qB =>
    go_simp
    go_at_call 26
    refine CT.out.mono ?_
    rintro e w4 ⟨rfl,rfl⟩
    (try dsimp only)
    refine hK.out _ _ HTT (fun hH2=>?_)
    clear hK K hHeld
    (try simp only [aP])
    refine wpAnyH_ready (rs:=[4]) (by kernel_rfl) (by simp) ?_
    refine AllReadyH.cons (o:=⟨some 94,_,_,_,_,_⟩) rfl (fun K hK=>?_) AllReadyH.nil
    go_simp
    refine hK.out _ _ HTT (fun hH3=>?_)
    clear hK K hH2
    (try simp only [aP])
    refine tkH 7 97 ?vu9 rfl ?hyu9 hH3 ?restu9
    case hyu9=>intro w q;(try dsimp only at q);go_simp;(try with_reducible rfl)
    (try simp only [aP])
    refine tkH 8 98 ?vu10 rfl ?hyu10 hH3 ?restu10
    case hyu10=>intro w q;(try dsimp only at q);go_simp;(try with_reducible rfl)
    (try simp only [aP])
    refine tkH 9 99 ?vu11 rfl ?hyu11 hH3 ?restu11
    case hyu11=>intro w q;(try dsimp only at q);go_simp;(try with_reducible rfl)
    (try simp only [aP])
    refine wpAnyH_ready (rs:=[10]) (by kernel_rfl) (by simp) ?_
    refine AllReadyH.cons (o:=⟨none,_,_,_,_,_⟩) rfl (fun K hK=>?_) AllReadyH.nil
    go_simp
    refine hK.out _ _ HTT (fun hH4=>?_)
    clear hK K hH3
    (try simp only [aP])
    refine wpAnyH_done (by kernel_rfl) ?_ _
    refine NoPanic.normal ?_
    go_upto_region 18 with (fail)
    clear hcell hfz
    go_upto_region 19 with (at_builtin;refine zF rfl _ _ _ _ hr8 rfl rfl rfl rfl ?_)
    clear hr8
    go_wp2_with (at_builtin;refine zF rfl _ _ _ _ hr9 rfl rfl rfl rfl ?_)
    exact ⟨HX.out,by have:=HMS.out;simp only [intOf];omega⟩
  ·obtain rfl:c=q:=by omega
   have hM:=HM.out
   rw [HKS.out.e,zVt,List.append_nil] at hM
   have HF:=Hd (HQ.out _ _ wr HW.out.b (by rw [← hM];exact HW.out.o) (by rw [← hM];exact HW.out.f))
   have hcq:¬ (c:Int)<(c:Int):=by omega
   clear hM
   go_wp2_with fail
   exact HF.out
theorem zXn {t l:List Prt} {hs:List Hl} {bs:List Bnd} (ok:InOK t l hs bs) (vt vh vb vl:Value):∀ n,InstC t l hs bs vt vh vb vl n:=by
 intro n
 induction n using Nat.strongRecOn with
 | ind n ih =>
  intro w p hi hp hf hlen
  have hg:=(zN (zK ok.H.well) hp).1
  obtain ⟨m,rfl⟩:∃ m,n=m+1:=⟨n-1,by omega⟩
  cases ho:zW t hs p with
  | some h=>exact zUh ok vt vh vb vl m w p hi hp h ho
  | none=>exact zUi ok vt vh vb vl m ih w p hi hp hf hlen ho
end Go.Proofs.YtfalelkfhandfaaGreatDoor
namespace Go.Proofs.YtfalelkfhandfaaGreatDoor
set_option maxRecDepth 100000
set_option maxHeartbeats 32000000
set_option linter.all false
attribute [local irreducible] Calls
attribute [local irreducible] wpStill
open Go.RowKit

@[irreducible] def makesPost (O:List PN) (w0:World) (e:Ending) (w':World):Prop :=
 Below w0.heap.size w0 w'∧if 131072<O.length then e=.returned (.tuple #[.slice none 0 0,.slice none 0 0,.bool false])
  else ∃ ov nv,e=.returned (.tuple #[ov,nv,.bool true])∧(∀ W',Above w0.heap.size w' W'→zD W' ov (O.map (·.1)))∧∀ W',Above w0.heap.size w' W'→zI W' nv .i64 (O.map (·.2))
theorem yBj {W:World} {B sz n:Nat} {e:TypeId} {v:Value} {xs:List Value} (h:W.ownsRow B e sz v n xs) {b off m c:Nat} (hv:v=.slice (some ⟨b,off,none⟩) m c):B≤b:=by
 rcases h.2 with ⟨h1,_⟩ | ⟨g,cap,cur,h1,h2,_⟩
 ·rw [h1] at hv;cases hv
 ·rw [h1] at hv
  simp only [Value.slice.injEq,Option.some.injEq,Addr.mk.injEq] at hv
  omega
theorem zKn {W W':World} {B B' sz n:Nat} {e:TypeId} {v:Value} {xs:List Value} (h:W.ownsRow B e sz v n xs) (hB:B'≤B) (ha:Above B' W W'):Row W' v n sz xs:=Row.above (Row.of_owns h) (fun _ b off m c e=>Nat.le_trans hB (yBj h e)) ha
theorem zOv {W:World} {g n cap sz:Nat} {x:List Value} {xs:List Value} (h:Row W (.slice (some ⟨g,0,none⟩) (n+1) cap) (n+1) sz (x++xs)) (hx:x.length=sz) (hg:g<W.heap.size):Row W (.slice (some ⟨g,sz,none⟩) n (cap-1)) n sz xs:=by
 obtain ⟨h1,a,c,hv,hc,h2,h3⟩:=h
 simp only [Value.slice.injEq,true_and] at hv
 obtain ⟨rfl,rfl⟩:=hv
 rw [List.length_append,Nat.add_one_mul] at h1
 refine ⟨by omega,some ⟨g,sz,none⟩,cap-1,rfl,by omega,(fun e=>nomatch e),fun _=>⟨g,sz,rfl,hg,fun i hi=>?_⟩⟩
 obtain ⟨b,o,e1,_,e3⟩:=h3 (by omega)
 simp only [Option.some.injEq,Addr.mk.injEq,and_true] at e1
 obtain ⟨rfl,rfl⟩:=e1
 have:=e3 (sz+i) (by rw [Nat.add_one_mul];omega)
 rw [Nat.zero_add] at this
 rw [this,List.getElem?_append_right (by omega),hx]
 congr 1;omega
theorem zCe {W:World} {g sz:Nat}:Row W (.slice (some ⟨g,0,none⟩) 0 0) 0 sz []:=⟨by simp,some ⟨g,0,none⟩,0,rfl,Nat.le_refl _,(fun e=>nomatch e),fun h=>absurd h (by decide)⟩
theorem zKo (r:RuleM) (hr:ruleZ r=0) (hsm:SmallR r) (vh vf vb:Value) (l:List Prt) (hl:l.length≤1048576) (vl vq:Value) (bs:List Bnd) (hrt:rightB r l bs=true) (w:World) (hin:RuleIn w r vh vf vb) (hlr:zD w vl l) (hrb:BindRow w vq bs) :
  Calls Tryz.prog 25 #[ruleAgg r vh vf vb,vl,vq] w (makesPost (outP r l bs) w):=by
 have hno:Hid (131072<(outP r l bs).length→∀ w',Below w.heap.size w w'→makesPost (outP r l bs) w (.returned (.tuple #[.slice none 0 0,.slice none 0 0,.bool false])) w'):=Hd fun h w' hb=>by
  unfold makesPost;rw [if_pos h];exact ⟨hb,rfl⟩
 have hyes:Hid (¬ 131072<(outP r l bs).length→∀ w' ov nv,Below w.heap.size w w'→(∀ W',Above w.heap.size w' W'→zD W' ov ((outP r l bs).map (·.1)))→(∀ W',Above w.heap.size w' W'→zI W' nv .i64 ((outP r l bs).map (·.2)))→makesPost (outP r l bs) w (.returned (.tuple #[ov,nv,.bool true])) w'):=Hd fun h w' ov nv hb h1 h2=>by
  unfold makesPost;rw [if_neg h];exact ⟨hb,ov,nv,rfl,h1,h2⟩
 generalize makesPost (outP r l bs) w=Q at *
 have hol:=zNy hr l bs
 have hn:=(vU.1 hrt).1
 have hbi:=jK hrt
 have HROOT:=Hd (fun hg=>zAb hr hg l bs)
 have HOP:Hid (r.goal≠3→outP r l bs=madeP r l bs):=Hd fun h=>by unfold outP;rw [if_neg h]
 have C1:=Hd (fun W (hb:Below w.heap.size w W)=>zXs r hr hsm vh vf vb l hl vq bs hn hbi W (hin.below hb) (hrb.below hb))
 have ok:InOK r.by' l r.holes bs:=⟨(kV hr).2.1,hn,hbi,fun h=>vT hrt h,hsm.b.1,hl,hsm.h.1⟩
 have h0:=xA ok.H.well
 have CI:Hid ((madeP r l bs).length≤1000000000→∀ W,Below w.heap.size w W→Calls Tryz.prog 49 #[vb,vh,vq,vl,.int .i64 0] W (instPost (madeP r l bs) W)):=Hd fun hlen W hb=>by
  have:=zXn ok vb vh vq vl (fuelZ r.by') W 0 ⟨hin.B.below hb,hin.H.below hb,hrb.below hb,hlr.below hb⟩ h0.1 (by rw [h0.2];unfold fuelZ;omega) (by unfold madeP at hlen;exact hlen)
  exact this
 obtain ⟨ah,ch,rfl,hch⟩:=Row.shape hin.H
 obtain ⟨af,cf,rfl,hcf⟩:=hin.F.slice
 obtain ⟨ab,cb,rfl,hcb⟩:=hin.B.slice
 have HR1:Hid (RK (w.alloc (.cells #[.string r.nm,.int .u8 (r.goal:Int),.slice ah r.holes.length ch,.slice af r.fnd.length cf,.slice ab r.by'.length cb] 36)) w.heap.size r.nm r.goal (.slice ah r.holes.length ch) (.slice af r.fnd.length cf) (.slice ab r.by'.length cb)):=Hd (heap_alloc_new _ _)
 have HB1:Hid (Below w.heap.size w (w.alloc (.cells #[.string r.nm,.int .u8 (r.goal:Int),.slice ah r.holes.length ch,.slice af r.fnd.length cf,.slice ab r.by'.length cb] 36))):=Hd ((Below.refl _ _).alloc (Nat.le_refl _) _)
 have hgl:=hsm.g
 clear hin hrb hlr hbi hrt ok h0 hsm hr
 unfold ruleAgg at C1 ⊢
 go_enter Tryz.func25,Tryz.ntmps25
 go_upto_region 1 with (fail)
 generalize w.alloc (.cells #[.string r.nm,.int .u8 (r.goal:Int),.slice ah r.holes.length ch,.slice af r.fnd.length cf,.slice ab r.by'.length cb] 36)=W1 at *
 obtain ⟨gr,hgr⟩:∃ gr,w.heap.size=gr:=⟨_,rfl⟩
 rw [hgr] at HR1 ⊢
 clear hgr
 obtain ⟨e0,e1,e2,e3,e4⟩:=HR1.out.cells
 have C1x:=Hd (C1.out W1 HB1.out)
 go_wp2_with fail
 refine C1x.out.mono ?_
 intro e w2 h2
 obtain ⟨n,rfl,hn4,hnt,hb2⟩:=h2.out
 have HB2:=Hd (zB HB1.out hb2)
 have HRW:=Hd (fun (W':World) (hb:Below w2.heap.size w2 W')=>(HR1.out.below (zB hb2 hb)).cells)
 clear h2 hb2 C1 C1x e0 e1 e2 e3 e4
 obtain ⟨e0,e1,e2,e3,e4⟩:=HRW.out w2 (Below.refl _ _)
 clear e0 e3
 have HNT:=Hd hnt
 have HOL:=Hd hol
 clear hnt hol
 generalize hMM:madeP r l bs=MM at *
 clear hMM
 generalize hOO:outP r l bs=OO at *
 clear hOO
 by_cases hg:r.goal=3
 ·have hwn:IntKind.i64.wrap ((n:Int)-1)=(n:Int)-1:=wI (by omega)
  have hg3:(r.goal:Int)=3:=by omega
  have hol:=HOL.out
  rw [if_pos hg] at hol
  obtain ⟨x,hm1⟩:∃ x,MM=x::OO:=by
   obtain ⟨x,M2,h1,_,h2⟩:=HROOT.out hg
   exact ⟨x,by rw [h1,h2]⟩
  rw [hg3] at e1 HRW
  clear hg3
  by_cases hbig:(131072:Int)<(n:Int)-1
  ·have HX:=Hd (hno.out (by have:=HNT.out;omega) w2 HB2.out)
   clear e2 e4
   go_wp2_with fail
   exact HX.out
  have hlen:MM.length≤131073:=by have:=HNT.out;omega
  have HY:=Hd (hyes.out (by omega))
  have CIx:=Hd (CI.out (by omega) w2 HB2.out)
  rw [hm1] at CIx
  clear hol hm1
  go_wp2_with fail
  refine CIx.out.mono ?_
  intro e w3 h3
  unfold instPost at h3
  obtain ⟨ov,nv,rfl,hb3,ho3,hn3⟩:=h3
  obtain ⟨oa,oc,rfl,hoc⟩:=Row.shape (Row.of_owns ho3)
  obtain ⟨na,nc,rfl,hnc⟩:=Row.shape (Row.of_owns hn3)
  obtain ⟨og,rfl⟩:=xI ho3 (by simp)
  obtain ⟨ng,rfl⟩:=xI hn3 (by simp)
  have hog:=(ho3.lt og rfl).2
  have hng:=(hn3.lt ng rfl).2
  have hs2:=HB2.out.size
  have HO:Hid (∀ W',Above w.heap.size w3.drew W'→zD W' (.slice (some ⟨og,3,none⟩) OO.length (oc-1)) (OO.map (·.1))):=Hd fun W' ha=>by
   have h:=Row.of_owns ho3
   have h2:=zOv (x:=partV x.1) (xs:=zV (OO.map (·.1))) (n:=OO.length) (sz:=3) (by simpa [zV] using h) rfl hog
   unfold zD;rw [List.length_map]
   exact Row.above h2 (fun _ b off m c e=>by
    simp only [Value.slice.injEq,Option.some.injEq,Addr.mk.injEq] at e
    have:=(ho3.lt og rfl).1
    omega) ((Above.of_below (Below.refl _ _).drew).trans ha)
  have HN:Hid (∀ W',Above w.heap.size w3.drew W'→zI W' (.slice (some ⟨ng,1,none⟩) OO.length (nc-1)) .i64 (OO.map (·.2))):=Hd fun W' ha=>by
   have h:=Row.of_owns hn3
   have h2:=zOv (x:=[.int .i64 x.2]) (xs:=intsV (OO.map (·.2))) (n:=OO.length) (sz:=1) (by simpa [intsV] using h) rfl hng
   unfold zI;rw [List.length_map]
   exact Row.above h2 (fun _ b off m c e=>by
    simp only [Value.slice.injEq,Option.some.injEq,Addr.mk.injEq] at e
    have:=(hn3.lt ng rfl).1
    omega) ((Above.of_below (Below.refl _ _).drew).trans ha)
  have HO0:Hid (oc=1→OO=[]):=Hd fun h=>by
   simp only [List.length_cons] at hoc
   exact List.eq_nil_of_length_eq_zero (by omega)
  have HN0:Hid (nc=1→OO=[]):=Hd fun h=>by
   simp only [List.length_cons] at hnc
   exact List.eq_nil_of_length_eq_zero (by omega)
  have HB3:=Hd (zB HB2.out hb3)
  obtain ⟨e0,e1,e2,e3,e4⟩:=HRW.out w3 hb3
  have hmc:1≤(OO.length:Int)+1:=by omega
  clear e0 e2 e3 e4 hb3 ho3 hn3 hog hng CIx hs2
  simp only [List.length_cons] at hoc hnc
  have hoc2:(1:Int)≤(oc:Int):=by omega
  have hnc2:(1:Int)≤(nc:Int):=by omega
  have HBD:=Hd (HB3.out.drew)
  by_cases ho1:oc=1
  ·have hM:=HO0.out ho1
   subst hM
   by_cases hn1:nc=1
   ·have HX:=Hd (HY.out w3.drew (.slice (some ⟨og,0,none⟩) 0 0) (.slice (some ⟨ng,0,none⟩) 0 0) HBD.out (fun _ _=>zCe) (fun _ _=>zCe))
    go_upto_region 8 with (fail)
    clear e1
    go_still_tail 6,(by kernel_rfl)
    go_wp2_with fail
    exact HX.out
   ·have HX:=Hd (HY.out w3.drew (.slice (some ⟨og,0,none⟩) 0 0) (.slice (some ⟨ng,1,none⟩) 0 (nc-1)) HBD.out (fun _ _=>zCe) HN.out)
    go_upto_region 8 with (fail)
    clear e1
    go_still_tail 6,(by kernel_rfl)
    go_wp2_with fail
    exact HX.out
  ·by_cases hn1:nc=1
   ·have hM:=HN0.out hn1
    subst hM
    have HX:=Hd (HY.out w3.drew (.slice (some ⟨og,3,none⟩) 0 (oc-1)) (.slice (some ⟨ng,0,none⟩) 0 0) HBD.out HO.out (fun _ _=>zCe))
    go_upto_region 8 with (fail)
    clear e1
    go_still_tail 6,(by kernel_rfl)
    go_wp2_with fail
    exact HX.out
   ·have HX:=Hd (HY.out w3.drew (.slice (some ⟨og,3,none⟩) OO.length (oc-1)) (.slice (some ⟨ng,1,none⟩) OO.length (nc-1)) HBD.out HO.out HN.out)
    go_upto_region 8 with (fail)
    clear e1
    go_still_tail 6,(by kernel_rfl)
    go_wp2_with fail
    exact HX.out
 ·have hg3:((r.goal:Int) == 3)=false:=by rw [beq_eq_false_iff_ne];omega
  have hol:=HOL.out
  rw [if_neg hg] at hol
  have hOM:=HOP.out hg
  clear hg
  by_cases hbig:(131072:Int)<(n:Int)
  ·have HX:=Hd (hno.out (by have:=HNT.out;omega) w2 HB2.out)
   clear e2 e4 hol hOM
   go_wp2_with fail
   exact HX.out
  have hlen:MM.length≤131073:=by have:=HNT.out;omega
  have HY:=Hd (hyes.out (by have:=HNT.out;omega))
  have CIx:=Hd (CI.out (by omega) w2 HB2.out)
  subst hOM
  clear hol
  go_wp2_with fail
  refine CIx.out.mono ?_
  intro e w3 h3
  unfold instPost at h3
  obtain ⟨ov,nv,rfl,hb3,ho3,hn3⟩:=h3
  have hs2:=HB2.out.size
  have HX:Hid (Q (.returned (.tuple #[ov,nv,.bool true])) w3):=Hd (HY.out w3 ov nv (zB HB2.out hb3) (fun W' ha=>by
   have h:=zKn ho3 hs2 ha
   unfold zD;rw [List.length_map];exact h) (fun W' ha=>by
   have h:=zKn hn3 hs2 ha
   unfold zI;rw [List.length_map];exact h))
  obtain ⟨e0,e1,e2,e3,e4⟩:=HRW.out w3 hb3
  clear e0 e2 e3 e4 hb3 ho3 hn3 CIx hs2
  go_wp2_with fail
  exact HX.out
end Go.Proofs.YtfalelkfhandfaaGreatDoor
