/- Layer 20: the maker's make, walked. -/
import Derived.Test.YtfalelkfhandfaaGreatDoorMakNMs
import Derived.Laws.EntriesVeiled
import Derived.Test.YtfalelkfhandfaaGreatDoorTreesFMs
import Derived.Test.YtfalelkfhandfaaGreatDoorMapSMs
import Derived.Test.YtfalelkfhandfaaGreatDoorRefRightMs
import Derived.Test.YtfalelkfhandfaaGreatDoorMakMMs
import Derived.Test.YtfalelkfhandfaaGreatDoorPackMs
import Derived.Test.YtfalelkfhandfaaGreatDoorTermMs
import Derived.Deep.RegionHeld3
import Derived.Test.YtfalelkfhandfaaGreatDoorRuleVMs
import Derived.Test.YtfalelkfhandfaaGreatDoorMakHMs
import Derived.Test.YtfalelkfhandfaaGreatDoorQuotedMs
namespace Go.Proofs.YtfalelkfhandfaaGreatDoor
set_option maxRecDepth 100000
set_option maxHeartbeats 32000000
set_option linter.all false
attribute [local irreducible] Calls
attribute [local irreducible] wpStill
open Go.RowKit

@[irreducible] def madePost (w0:World) (E:MkE) (e:Ending) (w':World):Prop :=
 ∃ ov fv,∃ k:Int,e=.returned (.int .i64 k)∧Below w0.heap.size w0 w'∧mkB E ov fv (decide (131072<(outP E.r E.l E.bs).length)) w'∧((outP E.r E.l E.bs).length≤131072→k=xX E.r E.l E.bs∧∀ W',Above w0.heap.size w' W'→zD W' ov ((outP E.r E.l E.bs).map (·.1))∧zI W' fv .i64 ((outP E.r E.l E.bs).map (·.2)))
theorem zWa {w0:World} {E:MkE} (F:MkF w0 E):(madeP E.r E.l E.bs).length≤2000000000000:=by
 have H:=(kV F.rz).2.1
 have h0:=xA H.well
 have h:=zSt (t:=E.r.by') (l:=E.l) (hs:=E.r.holes) (b:=bOf E.bs) H (m:=E.l.length) (fun h=>by have:=zBg (jK F.rt) h;omega) (n:=fuelZ E.r.by') (p:=0) h0.1 (by rw [h0.2];unfold fuelZ;omega)
 have h1:=F.sr.b.1
 have h2:=F.sl.1
 have h3:E.r.by'.length*(E.l.length+1)≤1048576*1048577:=Nat.mul_le_mul h1 (by omega)
 exact Nat.le_trans h (by omega)
theorem zWb {w0:World} {E E':MkE} (F:MkF w0 E) (hE:E'={ E with B:=E'.B }) {out':List PN} {lg':Bool} (hgo:mkGo [] false (madeP E.r E.l E.bs) out' lg') {e:Ending} {w':World} (h:topPost w0 E' out' lg' e w'):madePost w0 E e w':=by
 unfold topPost at h
 obtain ⟨ov,fv,long,k,rfl,hb,hs,h1,h2⟩:=h
 have hs':mkB E ov fv long w':=by rw [hE] at hs;exact hs
 have hol:=zNy F.rz E.l E.bs
 have hgl:E'.r=E.r:=by rw [hE]
 have hone:=fun hg=>zVy F.rz hg F.rt (vT F.rt)
 by_cases hm:(madeP E.r E.l E.bs).length≤131073
 ·obtain ⟨rfl,rfl⟩:=hgo.1 ⟨rfl,by simpa using hm⟩
  rw [List.nil_append] at h2
  obtain ⟨g1,g2,g3⟩:=h2 rfl
  have ho:outT E' (madeP E.r E.l E.bs)=outP E.r E.l E.bs:=by unfold outT outP;rw [hgl]
  rw [ho] at g1 g3
  have hl:long=decide (131072<(outP E.r E.l E.bs).length):=by
   rw [g1]
   by_cases c:131072<(outP E.r E.l E.bs).length
   ·rw [decide_eq_true c,decide_eq_true (by omega)]
   ·rw [decide_eq_false c,decide_eq_false (by omega)]
  unfold madePost
  refine ⟨ov,fv,k,rfl,hb,by rw [← hl];exact hs',fun _=>⟨?_,g3⟩⟩
  rw [g2,hgl]
  by_cases hg:E.r.goal=3
  ·rw [if_pos hg]
   obtain ⟨x,M,e1,e2,e3⟩:=zAb F.rz hg E.l E.bs
   obtain ⟨ts,hts⟩:=zJz F.rz (jK F.rt) (vT F.rt)
   unfold xX
   rw [zJn hts,e3,e1]
   exact e2
  ·rw [if_neg hg,hone hg]
 ·have hlg:=hgo.2 (fun c=>hm (by simpa using c.2))
  have:=h1 hlg
  subst this
  have hl:131072<(outP E.r E.l E.bs).length:=by split at hol <;> omega
  unfold madePost
  exact ⟨ov,fv,k,rfl,hb,by rw [decide_eq_true hl];exact hs',fun c=>by omega⟩
theorem zZo (w0:World) (E:MkE) (F:MkF w0 E) (W:World) (hi:MkIn w0 E [] false (.slice none 0 0) (.slice none 0 0) W) :
  Calls Tryz.prog 21 #[.pointer (some ⟨E.g,0,none⟩)] W (madePost w0 E):=by
 have HM:=Hd (fun (E':MkE) hE out' lg' hgo e w' h=>zWb (E':=E') (out':=out') (lg':=lg') (e:=e) (w':=w') F hE hgo h)
 have HBY:=(kV F.rz).2.1
 have hyl:=F.sr.b.1
 have CE:=Hd (fun W' (hb:Below w0.heap.size w0 W')=>zJj E.r.by' (by omega) _ (zK HBY.well) E.vy W' (F.Y.below hb))
 obtain ⟨ya,yc,hvy,hyc⟩:=F.Y.slice
 have HF:=Hd F
 have HI:=Hd hi
 have hgl:=zP hi.s
 generalize madePost w0 E=Q at *
 clear hi F
 go_enter Tryz.func21,Tryz.ntmps21
 have HB1:Hid (Below W.heap.size W (W.alloc (.cells #[.pointer (some ⟨E.g,0,none⟩)] 58))):=Hd ((Below.refl _ _).alloc (Nat.le_refl _) _)
 have HG1:Hid ((W.alloc (.cells #[.pointer (some ⟨E.g,0,none⟩)] 58)).heap[W.heap.size]?=some (.cells #[.pointer (some ⟨E.g,0,none⟩)] 58 (0,0))):=Hd (heap_alloc_new _ _)
 go_upto_region 1 with (fail)
 generalize W.alloc (.cells #[.pointer (some ⟨E.g,0,none⟩)] 58)=W1 at *
 have m0:W1.cell? ⟨W.heap.size,0,none⟩=some (.pointer (some ⟨E.g,0,none⟩)):=by simp [World.cell?,HG1.out]
 have HI1:=Hd (HI.out.below HB1.out)
 obtain ⟨c0,c1,c2,c3,c4,c5,c6,c7,c8,c9,c10,cz⟩:=HI1.out.s.cells
 clear c0 c1 c2 c3 c5 c6 c7 c8 c9 c10 cz
 have CE1:=Hd (CE.out W1 HI1.out.b)
 rw [hvy] at c4 CE1
 go_wp2_with fail
 refine CE1.out.mono ?_
 intro e w2 h2
 unfold ends2Post at h2
 obtain ⟨vy,rfl,hb2,ho2⟩:=h2
 obtain ⟨a2,n2,cc2,rfl⟩:=zL ho2
 have HB2:=Hd hb2
 have HO2:=Hd ho2
 clear hb2 ho2 c4 m0 CE CE1
 have HB3:=Hd ((Below.refl w2.heap.size w2).alloc (Nat.le_refl _) (.cells #[.slice a2 n2 cc2] 27))
 have HG3:Hid ((w2.alloc (.cells #[.slice a2 n2 cc2] 27)).heap[w2.heap.size]?=some (.cells #[.slice a2 n2 cc2] 27 (0,0))):=Hd (heap_alloc_new _ _)
 go_upto_region 2 with (fail)
 generalize w2.alloc (.cells #[.slice a2 n2 cc2] 27)=W3 at *
 have HB4:=Hd ((Below.refl W3.heap.size W3).alloc (Nat.le_refl _) (.cells #[.nilFunc] 79))
 have HG4:Hid ((W3.alloc (.cells #[.nilFunc] 79)).heap[W3.heap.size]?=some (.cells #[.nilFunc] 79 (0,0))):=Hd (heap_alloc_new _ _)
 go_upto_region 3 with (fail)
 generalize W3.alloc (.cells #[.nilFunc] 79)=W4 at *
 have cw:W4.cell? ⟨W3.heap.size,0,none⟩=some .nilFunc:=by simp [World.cell?,HG4.out]
 have zw:W4.frozen? ⟨W3.heap.size,0,none⟩=false:=by simp [World.frozen?,HG4.out]
 -- the whole memory behind the closure's making
 have HS:Hid (∀ W5,W5=W4.setCell ⟨W3.heap.size,0,none⟩ (.func (.func 39) #[] #[.pointer (some ⟨W.heap.size,0,none⟩),.pointer (some ⟨w2.heap.size,0,none⟩),.pointer (some ⟨W3.heap.size,0,none⟩)])→MkIn w0 { E with B:=W5.heap.size } [] false (.slice none 0 0) (.slice none 0 0) W5∧WkS { E with B:=W5.heap.size } W.heap.size w2.heap.size W3.heap.size (.slice a2 n2 cc2) W5):=Hd fun W5 h5=>by
  have l1:=HB1.out.size
  have l2:=HB2.out.size
  have l3:=HB3.out.size
  have l4:=zP HG4.out
  have k1:=zP HG1.out
  have k3:=zP HG3.out
  have hs:W5.heap.size=W4.heap.size:=by rw [h5];simp
  have b14:Below W1.heap.size W1 W4:=zB (zB HB2.out HB3.out) HB4.out
  have b04:Below W.heap.size W W4:=zB HB1.out b14
  have bs:Below W3.heap.size W4 W5:=by rw [h5];exact (Below.refl _ _).setCell (p:=⟨W3.heap.size,0,none⟩) (Nat.le_refl _) _
  have b05:Below W.heap.size W W5:=b04.trans (bs.mono (by omega))
  have b15:Below W1.heap.size W1 W5:=b14.trans (bs.mono (by omega))
  have b25:Below w2.heap.size w2 W5:=(zB HB3.out HB4.out).trans (bs.mono (by omega))
  have b35:Below W3.heap.size W3 W5:=HB4.out.trans bs
  have hi5:=HI.out.below b05
  refine ⟨⟨hi5.b,hi5.s,World.ownsRow_nil _ _ _ _,World.ownsRow_nil _ _ _ _,hi5.g0,by show E.g<W5.heap.size;omega,Nat.le_refl _⟩,⟨keeps b15 HG1.out,keeps b35 HG3.out,?_,?_,?_,?_⟩⟩
  ·rw [h5]
   exact heap_setCell_same _ _ _ _ _ _ HG4.out
  ·have:=zS HO2.out b25
   have hr:=zI.of_owns this
   exact hr
  ·refine ⟨?_,?_,?_,?_,?_,?_⟩
   ·show W.heap.size<W5.heap.size;omega
   ·show w2.heap.size<W5.heap.size;omega
   ·show W3.heap.size<W5.heap.size;omega
   ·show W.heap.size≠E.g;omega
   ·show w2.heap.size≠E.g;omega
   ·show W3.heap.size≠E.g;omega
  ·intro b hb
   have:=HO2.out.lt b hb
   refine ⟨?_,?_⟩
   ·show b<W5.heap.size;omega
   ·show b≠E.g;omega
 go_upto_region 4 with (fail)
 clear cw zw
 generalize hW5:W4.setCell ⟨W3.heap.size,0,none⟩ (.func (.func 39) #[] #[.pointer (some ⟨W.heap.size,0,none⟩),.pointer (some ⟨w2.heap.size,0,none⟩),.pointer (some ⟨W3.heap.size,0,none⟩)])=W5 at *
 have HH:=Hd (HS.out W5 rfl)
 clear hW5 HS
 have HF':Hid (MkF w0 { E with B:=W5.heap.size }):=Hd ⟨HF.out.H,HF.out.Y,HF.out.L,HF.out.N,HF.out.K,HF.out.sr,HF.out.sl,HF.out.rz,HF.out.wl,HF.out.rt⟩
 have h0:=xA HBY.well
 have CW:=Hd (yBb w0 { E with B:=W5.heap.size } HF'.out W.heap.size w2.heap.size W3.heap.size (.slice a2 n2 cc2) (fuelZ E.r.by') W5 [] false _ _ 0 HH.out.1 HH.out.2 (by simp) h0.1 (by show 2*(zC E.r.by' 0-0)≤fuelZ E.r.by';rw [h0.2];unfold fuelZ;omega) (show (madeP E.r E.l E.bs).length≤2000000000000 from zWa HF.out))
 obtain ⟨m0,m1,m2⟩:=HH.out.2.cells
 go_wp2_with fail
 refine CW.out.mono ?_
 intro e w6 h6
 obtain ⟨o1,l1,v1,f1,u,rfl,rfl,hgo1,hol1,hi1,hk1⟩:=h6.out
 obtain ⟨m3,_,_⟩:=(HH.out.2.kc HH.out.1 hk1).cells
 have hgo1:mkGo [] false (madeP E.r E.l E.bs) o1 l1:=hgo1
 have CT:=Hd (yBc w0 { E with B:=W5.heap.size } o1 l1 v1 f1 w6 hi1 hol1 (fun hl hg=>by
  have hg:E.r.goal=3:=hg
  obtain ⟨x,M,e1,_⟩:=zAb HF.out.rz hg E.l E.bs
  by_cases c:([]:List PN).length+(madeP E.r E.l E.bs).length≤131073
  ·have:=(hgo1.1 ⟨rfl,c⟩).2
   rw [this,List.nil_append,e1];simp
  ·have:=hgo1.2 (fun h=>c h.2)
   rw [this] at hl;cases hl))
 have HGO:=Hd hgo1
 clear hgo1 hi1 hk1 h6 m0 m1 m2
 generalize cntP _=kk
 go_wp2_with fail
 refine CT.out.mono ?_
 intro e w7 h7
 have HX:=Hd (HM.out { E with B:=W5.heap.size } rfl o1 l1 HGO.out e w7 h7)
 unfold topPost at h7
 obtain ⟨ov7,fv7,long7,k7,rfl,_⟩:=h7
 go_wp2_with fail
 exact HX.out
end Go.Proofs.YtfalelkfhandfaaGreatDoor
namespace Go.Proofs.YtfalelkfhandfaaGreatDoor
set_option linter.all false
open Go Go.RowKit

abbrev PkX:=Pk×Value
def pkV (x:PkX):List Value:=[.int .i64 x.1.1,.int .i64 x.1.2.1,x.2]
structure vQ (w:World) (v:Value) (xs:List PkX):Prop where
 R:Row w v xs.length 3 (xs.flatMap pkV)
 E:∀ x∈xs,BindRow w x.2 x.1.2.2
theorem vQ.below {w w':World} {v:Value} {xs:List PkX} (h:vQ w v xs) (hb:Below w.heap.size w w'):vQ w' v xs:=⟨Row.below h.R hb,fun x hx=>(h.E x hx).below hb⟩
theorem vQ.shape {w:World} {v:Value} {xs:List PkX} (h:vQ w v xs):∃ a cap,v=.slice a xs.length cap∧xs.length≤cap:=Row.shape h.R
theorem vQ.at {w w':World} {a:Option Addr} {n cap:Nat} {xs:List PkX} (h:vQ w (.slice a n cap) xs) (hb:Below w.heap.size w w') (hp:0<xs.length) :
  ∃ b off,a=some ⟨b,off,none⟩∧b<w.heap.size∧∀ i (hi:i<xs.length),
   w'.cell? ⟨b,off+i*3,none⟩=some (.int .i64 xs[i].1.1)∧w'.cell? ⟨b,off+i*3+1,none⟩=some (.int .i64 xs[i].1.2.1)∧w'.cell? ⟨b,off+i*3+2,none⟩=some xs[i].2:=by
 obtain ⟨b,off,cap',hv,hc,hlt,hcell⟩:=Row.cells h.R hb hp
 simp only [Value.slice.injEq] at hv
 obtain ⟨rfl,rfl,rfl⟩:=hv
 have key:∀ i (hi:i<xs.length) (j:Nat),j<3→w'.cell? ⟨b,off+i*3+j,none⟩=(pkV xs[i])[j]?:=fun i hi j hj=>by
  rw [Nat.add_assoc,hcell _ (by omega)]
  exact gN (g:=pkV) (sz:=3) (fun _=>rfl) xs i j hi hj
 exact ⟨b,off,rfl,hlt,fun i hi=>⟨key i hi 0 (by omega),key i hi 1 (by omega),key i hi 2 (by omega)⟩⟩
structure PkMade (B:Nat) (W:World) (g:Nat) (M:List PN):Prop where
 lt:B≤g
 s:∃ (E:MkE) (ov fv:Value) (b:Bool),E.g=g∧mkB E ov fv b W∧∀ W',Above B W W'→zD W' ov (M.map (·.1))∧zI W' fv .i64 (M.map (·.2))
theorem PkMade.above {B:Nat} {W W':World} {g:Nat} {M:List PN} (h:PkMade B W g M) (ha:Above B W W'):PkMade B W' g M:=by
 obtain ⟨E,ov,fv,b,e,hm,hr⟩:=h.s
 refine ⟨h.lt,E,ov,fv,b,e,?_,fun W2 ha2=>hr W2 (ha.trans ha2)⟩
 unfold mkB at *
 rw [ha.up E.g (by rw [e];exact h.lt) (zP hm)]
 exact hm
structure St1 (gm gd:Nat) (w6:World) (ML:List Int) (MS:List (List PN)) (np:Nat) (W:World):Prop where
 os:W.os=w6.os
 tape:W.tape=w6.tape
 output:W.output=w6.output
 size:w6.heap.size≤W.heap.size
 low:∀ b,b<w6.heap.size→b≠gm→b≠gd→W.heap[b]?=w6.heap[b]?
 more:W.heap[gm]?=some (.cells (ML.map (Value.int .i64)).toArray 3 (0,0))
 made:∃ C:Array Value,W.heap[gd]?=some (.cells C 58 (0,0))∧C.size=np∧∀ j (hj:j<MS.length),∃ g,C[j]?=some (.pointer (some ⟨g,0,none⟩))∧PkMade w6.heap.size W g MS[j]
 lm:gm<w6.heap.size
 ld:gd<w6.heap.size
 ne:gm≠gd
section
variable {gm gd np:Nat} {w6 W:World} {ML:List Int} {MS:List (List PN)}
theorem St1.below {W':World} (h:St1 gm gd w6 ML MS np W) (hb:Below W.heap.size W W'):St1 gm gd w6 ML MS np W':=by
 obtain ⟨C,hC,hs,hm⟩:=h.made
 exact ⟨hb.os.trans h.os,hb.tape.trans h.tape,hb.output.trans h.output,Nat.le_trans h.size hb.size,fun b h1 h2 h3=>by rw [hb.block b (by have:=h.size;omega)];exact h.low b h1 h2 h3,keeps hb h.more,
  ⟨C,keeps hb hC,hs,fun j hj=>by obtain ⟨g,e,k⟩:=hm j hj;exact ⟨g,e,k.above (Above.of_below hb)⟩⟩,h.lm,h.ld,h.ne⟩
theorem St1.toBelow {w:World} (h:St1 gm gd w6 ML MS np W) (hb:Below w.heap.size w w6) (h1:w.heap.size≤gm) (h2:w.heap.size≤gd):Below w.heap.size w W :=
 ⟨h.os.trans hb.os,h.tape.trans hb.tape,h.output.trans hb.output,Nat.le_trans hb.size h.size,fun k hk=>(h.low k (by have:=hb.size;omega) (by omega) (by omega)).trans (hb.block k hk)⟩
theorem St1.row {v:Value} {n sz:Nat} {cs:List Value} (h:St1 gm gd w6 ML MS np W) (hr:Row w6 v n sz cs) (hb:∀ b,v.ownBlock=some b→b≠gm∧b≠gd):Row W v n sz cs :=
 Row.same2 hr fun b e hlt=>⟨Nat.lt_of_lt_of_le hlt h.size,h.low b hlt (hb b e).1 (hb b e).2⟩
theorem St1.moreCell (h:St1 gm gd w6 ML MS np W) {u:Nat} (hu:u<ML.length):W.cell? ⟨gm,u,none⟩=some (.int .i64 ML[u])∧W.frozen? ⟨gm,u,none⟩=false:=by
 simp [World.cell?,World.frozen?,h.more,hu]
theorem St1.setMore (h:St1 gm gd w6 ML MS np W) (u:Nat) (z:Int):St1 gm gd w6 (ML.set u z) MS np (W.setCell ⟨gm,u,none⟩ (.int .i64 z)):=by
 obtain ⟨C,hC,hs,hm⟩:=h.made
 exact ⟨h.os,h.tape,h.output,by simpa using h.size,fun b h1 h2 h3=>by rw [heap_setCell_other _ _ _ _ h2];exact h.low b h1 h2 h3,by rw [heap_setCell_same _ _ _ _ _ _ h.more,List.setIfInBounds_toArray,← List.map_set],
  ⟨C,by rw [heap_setCell_other _ _ _ _ (show gd≠gm from fun e=>h.ne e.symm)];exact hC,hs,fun j hj=>by obtain ⟨g,e,k⟩:=hm j hj;exact ⟨g,e,k.above ((Above.refl _ _).setCell h.lm _ _)⟩⟩,h.lm,h.ld,h.ne⟩
theorem St1.madeCell (h:St1 gm gd w6 ML MS np W) {j:Nat} (hj:j<np):∃ u,W.cell? ⟨gd,j,none⟩=some u∧W.frozen? ⟨gd,j,none⟩=false:=by
 obtain ⟨C,hC,hs,_⟩:=h.made
 have hjs:j<C.size:=by omega
 refine ⟨C[j],?_,?_⟩
 ·simp [World.cell?,hC,hjs]
 ·simp [World.frozen?,hC]
theorem St1.setMade (h:St1 gm gd w6 ML MS np W) (hn:MS.length<np) {g:Nat} {M:List PN} (hp:PkMade w6.heap.size W g M):St1 gm gd w6 ML (MS++[M]) np (W.setCell ⟨gd,MS.length,none⟩ (.pointer (some ⟨g,0,none⟩))):=by
 obtain ⟨C,hC,hs,hm⟩:=h.made
 have hab:Above w6.heap.size W (W.setCell ⟨gd,MS.length,none⟩ (.pointer (some ⟨g,0,none⟩))):=(Above.refl _ _).setCell h.ld _ _
 refine ⟨h.os,h.tape,h.output,by simpa using h.size,fun b h1 h2 h3=>by rw [heap_setCell_other _ _ _ _ h3];exact h.low b h1 h2 h3,by rw [heap_setCell_other _ _ _ _ h.ne];exact h.more,⟨_,heap_setCell_same _ _ _ _ _ _ hC,by simpa using hs,fun j hj=>?_⟩,h.lm,h.ld,h.ne⟩
 rw [List.length_append,List.length_singleton] at hj
 by_cases e:j=MS.length
 ·subst e
  refine ⟨g,by simp [hs,hn],?_⟩
  rw [List.getElem_append_right (Nat.le_refl _)]
  simpa using hp.above hab
 ·obtain ⟨g',e1,k⟩:=hm j (by omega)
  refine ⟨g',?_,?_⟩
  ·rw [Array.getElem?_setIfInBounds_ne (by omega)];exact e1
  ·rw [List.getElem_append_left (by omega)];exact k.above hab
theorem St1.maker (h:St1 gm gd w6 ML MS np W) {j:Nat} (hj:j<MS.length) (hn:MS.length≤np):∃ g,∃ ov fv:Value,W.cell? ⟨gd,j,none⟩=some (.pointer (some ⟨g,0,none⟩))∧W.cell? ⟨g,8,none⟩=some ov∧W.cell? ⟨g,9,none⟩=some fv∧w6.heap.size≤g∧g<W.heap.size∧∀ W',Above w6.heap.size W W'→zD W' ov (MS[j].map (·.1))∧zI W' fv .i64 (MS[j].map (·.2)):=by
 obtain ⟨C,hC,hs,hm⟩:=h.made
 obtain ⟨g,e,hp⟩:=hm j hj
 obtain ⟨E,ov,fv,b,e2,hmk,hr⟩:=hp.s
 have hc:=hmk.cells
 have hl:=zP hmk
 rw [e2] at hc hl
 refine ⟨g,ov,fv,?_,hc.2.2.2.2.2.2.2.2.1,hc.2.2.2.2.2.2.2.2.2.1,hp.lt,hl,hr⟩
 simp [World.cell?,hC,e]
end
@[irreducible] def yZ (rs:List RuleM) (l:List Prt) (P:List Pk) (w0:World) (e:Ending) (w':World):Prop :=
 Below w0.heap.size w0 w'∧∃ ov nv,e=.returned (.tuple #[ov,nv,.int .i64 (stepZ rs l P).2])∧w'.ownsRow w0.heap.size 38 3 ov (stepZ rs l P).1.length (zV ((stepZ rs l P).1.map (·.1)))∧w'.ownsRow w0.heap.size 3 1 nv (stepZ rs l P).1.length (intsV ((stepZ rs l P).1.map (·.2)))
theorem yZ.no {rs:List RuleM} {l:List Prt} {P:List Pk} {w0 w':World} {z:Int} (h:stepZ rs l P=([],z)) (hb:Below w0.heap.size w0 w'):yZ rs l P w0 (.returned (.tuple #[.slice none 0 0,.slice none 0 0,.int .i64 z])) w':=by
 unfold yZ
 rw [h]
 exact ⟨hb,_,_,rfl,World.ownsRow_nil _ _ _ _,World.ownsRow_nil _ _ _ _⟩
end Go.Proofs.YtfalelkfhandfaaGreatDoor
namespace Go.Proofs.YtfalelkfhandfaaGreatDoor
set_option linter.all false
open Go.RowKit

structure PkOK (rs:List RuleX) (l:List Prt) (q:PkX) (k x:Nat):Prop where
 hk:k<rs.length
 hr:q.1.1=(k:Int)
 hx:q.1.2.1=(x:Int)
 hl:x<l.length
 hz:ruleZ (rs[k]'hk).1=0
 ht:rightB (rs[k]'hk).1 l q.1.2.2=true
 hn:(outP (rs[k]'hk).1 l q.1.2.2).length≤131072
def AllOK (rs:List RuleX) (l:List Prt) (P:List PkX):Prop:=∀ q∈P,∃ k x,PkOK rs l q k x
theorem PkOK.mk' {rs:List RuleX} {l:List Prt} {q:PkX} {k x:Nat} (h:PkOK rs l q k x):mkOf (rs.map (·.1)) l q.1=(x,outP (rs[k]'h.hk).1 l q.1.2.2,xX (rs[k]'h.hk).1 l q.1.2.2-1):=by
 obtain ⟨⟨n,y,bs⟩,v⟩:=q
 have e1:=h.hr
 have e2:=h.hx
 simp only [] at e1 e2
 subst e1 e2
 rw [zDr (r:=(rs[k]'h.hk).1) (by rw [Int.toNat_natCast,List.getElem?_map,List.getElem?_eq_getElem h.hk];rfl),Int.toNat_natCast]
theorem zOw {w:World} {ar ap:Option Addr} {cr cp:Nat} {rs:List RuleX} {P:List PkX} (hr:xZ w (.slice ar rs.length cr) rs) (hp:vQ w (.slice ap P.length cp) P) {i k:Nat} (hi:i<P.length) (hk:k<rs.length) :
  ∃ pb po rb ro,ap=some ⟨pb,po,none⟩∧ar=some ⟨rb,ro,none⟩∧∀ W,Below w.heap.size w W →
   W.cell? ⟨pb,po+i*3,none⟩=some (.int .i64 P[i].1.1)∧W.cell? ⟨pb,po+i*3+1,none⟩=some (.int .i64 P[i].1.2.1)∧W.cell? ⟨pb,po+i*3+2,none⟩=some P[i].2 ∧
   W.cell? ⟨rb,ro+k*5,none⟩=some (.string rs[k].1.nm)∧W.cell? ⟨rb,ro+k*5+1,none⟩=some (.int .u8 (rs[k].1.goal:Int))∧W.cell? ⟨rb,ro+k*5+2,none⟩=some rs[k].2.1∧W.cell? ⟨rb,ro+k*5+3,none⟩=some rs[k].2.2.1∧W.cell? ⟨rb,ro+k*5+4,none⟩=some rs[k].2.2.2:=by
 obtain ⟨pb,po,rfl,_,_⟩:=hp.at (Below.refl _ _) (show 0<P.length by omega)
 obtain ⟨rb,ro,rfl,_,_,_,_⟩:=hr.at (Below.refl _ _) (show 0<rs.length by omega)
 refine ⟨pb,po,rb,ro,rfl,rfl,fun W hb=>?_⟩
 obtain ⟨b2,o2,e2,_,h2⟩:=hp.at hb (show 0<P.length by omega)
 obtain ⟨b3,o3,e3,_,_,_,h3⟩:=hr.at hb (show 0<rs.length by omega)
 simp only [Option.some.injEq,Addr.mk.injEq,and_true] at e2 e3
 obtain ⟨rfl,rfl⟩:=e2
 obtain ⟨rfl,rfl⟩:=e3
 obtain ⟨a1,a2,a3⟩:=h2 i hi
 obtain ⟨c1,c2,c3,c4,c5⟩:=h3 k hk
 exact ⟨a1,a2,a3,c1,c2,c3,c4,c5⟩
@[irreducible] def madeOK (O:List PN) (w0:World) (e:Ending) (w':World):Prop :=
 ∃ ov nv,e=.returned (.tuple #[ov,nv,.bool true])∧Below w0.heap.size w0 w'∧(∀ W',Above w0.heap.size w' W'→zD W' ov (O.map (·.1)))∧∀ W',Above w0.heap.size w' W'→zI W' nv .i64 (O.map (·.2))
theorem zOx {w:World} {vl:Value} {rs:List RuleX} {P:List PkX} {l:List Prt} {vr vp:Value} (hs:∀ x∈rs,SmallR x.1) (hl:l.length≤1048576) (hr:xZ w vr rs) (hp:vQ w vp P) (hlr:zD w vl l) {q:PkX} (hq:q∈P) {k x:Nat} (h:PkOK rs l q k x) (W:World) (hb:Below w.heap.size w W) :
  Calls Tryz.prog 25 #[.agg #[.string (rs[k]'h.hk).1.nm,.int .u8 ((rs[k]'h.hk).1.goal:Int),(rs[k]'h.hk).2.1,(rs[k]'h.hk).2.2.1,(rs[k]'h.hk).2.2.2],vl,q.2] W (madeOK (outP (rs[k]'h.hk).1 l q.1.2.2) W):=by
 have hm:=List.getElem_mem h.hk
 refine (zKo (rs[k]'h.hk).1 h.hz (hs _ hm) _ _ _ l hl vl q.2 q.1.2.2 h.ht W ((hr.E _ hm).below hb) (hlr.below hb) ((hp.E q hq).below hb)).mono fun e w' h2=>?_
 unfold makesPost at h2
 obtain ⟨h3,h4⟩:=h2
 rw [if_neg (by have:=h.hn;omega)] at h4
 obtain ⟨ov,nv,h5,h6,h7⟩:=h4
 unfold madeOK
 exact ⟨ov,nv,h5,h3,h6,h7⟩
end Go.Proofs.YtfalelkfhandfaaGreatDoor
namespace Go.Proofs.YtfalelkfhandfaaGreatDoor
set_option maxRecDepth 100000
set_option maxHeartbeats 32000000
set_option linter.all false
attribute [local irreducible] Calls
open Go.RowKit

def ltRel (rs:List RuleX) (l:List Prt) (P:List PkX) (T:Int) (w:World) (sv kv:Value) (wr:World):Prop :=
 ∃ (k:Nat) (s:Int),kv=.int .i64 (k:Int)∧sv=.int .i64 s∧k≤P.length∧s+laterS l (yA (rs.map (·.1)) l ((P.drop k).map (·.1)))=T∧-(2000000*((k:Int)+2))≤s∧s≤2000000*((k:Int)+2)∧Below w.heap.size w wr
theorem zUj (rs:List RuleX) (hs:∀ x∈rs,SmallR x.1) (l:List Prt) (hl:l.length≤1048576) (hw:zZ l=true) (P:List PkX) (hpn:P.length≤1048576) (hok:AllOK rs l P) (vr vl vp:Value) (n en:Nat) (hn:n<P.length) (hen:en≤l.length) (w:World) (hr:xZ w vr rs) (hlr:zD w vl l) (hp:vQ w vp P) :
  Calls Tryz.prog 29 #[vr,vl,vp,.int .i64 (n:Int),.int .i64 (en:Int)] w fun e w'=>e=.returned (.int .i64 (laterZ l (yA (rs.map (·.1)) l ((P.drop (n+1)).map (·.1))) en))∧Below w.heap.size w w':=by
 obtain ⟨T,hT⟩:∃ T,laterZ l (yA (rs.map (·.1)) l ((P.drop (n+1)).map (·.1))) en=T:=⟨_,rfl⟩
 have HQ:Hid (∀ w',Below w.heap.size w w'→(fun (e:Ending) w'=>e=.returned (.int .i64 (laterZ l (yA (rs.map (·.1)) l ((P.drop (n+1)).map (·.1))) en))∧Below w.heap.size w w') (.returned (.int .i64 T)) w'):=Hd fun w' hb=>⟨by rw [hT],hb⟩
 generalize (fun (e:Ending) w'=>e=.returned (.int .i64 (laterZ l (yA (rs.map (·.1)) l ((P.drop (n+1)).map (·.1))) en))∧Below w.heap.size w w')=Q at *
 rw [jV] at hT
 have CM:=Hd (fun q hq k x (h:PkOK rs l q k x) W (hb:Below w.heap.size w W)=>zOx hs hl hr hp hlr hq h W hb)
 have HU:=Hd (zK hw)
 obtain ⟨ar,cr,rfl,hcr⟩:=hr.shape
 obtain ⟨al,cl,rfl,hcl⟩:=hlr.slice
 obtain ⟨ap,cp,rfl,hcp⟩:=hp.shape
 have CE:=Hd (fun x (hx:x<l.length) W (hb:Below w.heap.size w W)=>show Calls Tryz.prog 28 #[.slice al l.length cl,.int .i64 (x:Int)] W fun e w'=>e=.returned (.int .i64 (zC l x:Int))∧W=w' by
  have:=gT l (by omega) _ x (by omega) W (hlr.below hb)
  rw [zBr HU.out hx] at this
  exact this)
 have HR:=Hd hr
 have HP:=Hd hp
 have HOK:=Hd hok
 have HT:=Hd hT
 have hw1:IntKind.i64.wrap ((l.length:Int)-(en:Int))=(l.length:Int)-(en:Int):=wI (by omega)
 have hw2:IntKind.i64.wrap ((n:Int)+1)=(n:Int)+1:=wI (by omega)
 clear hr hlr hp hok hs hT hw
 go_enter Tryz.func29,Tryz.ntmps29
 go_wp2_with fail
 clear hw1 hw2
 go_loopw [11,12] (fun sv kv wr=>ltRel rs l P T w sv kv wr) (fun _ kv _=>P.length-(intOf kv).toNat)
 case atStart=>exact ⟨n+1,(l.length:Int)-(en:Int),by push_cast;rfl,rfl,hn,HT.out,by push_cast;omega,by push_cast;omega,Below.refl _ _⟩
 case round =>
  obtain ⟨k,s,rfl,rfl,hk,hsz,hs1,hs2,hb⟩:=hrel
  have HSZ:=Hd hsz
  have HB:=Hd hb
  clear hsz hb
  by_cases hlt:k<P.length
  case neg =>
   obtain rfl:k=P.length:=by omega
   have hkl:¬ (P.length:Int)<P.length:=by omega
   have e:s=T:=by
    have:=HSZ.out
    rw [List.drop_length,List.map_nil] at this
    unfold yA at this
    rw [List.map_nil,laterS] at this
    omega
   subst e
   have HX:=Hd (HQ.out wr HB.out)
   clear hlt
   go_wp2_with fail
   exact HX.out
  have hqm:=List.getElem_mem hlt
  obtain ⟨rk,x,hq⟩:=HOK.out _ hqm
  obtain ⟨pb,po,rb,ro,rfl,rfl,hcell⟩:=zOw HR.out HP.out hlt hq.hk
  have hcm:=Hd (fun W hb=>CM.out _ hqm rk x hq W hb)
  have CEx:=Hd (fun W hb=>CE.out x hq.hl W hb)
  have hsum:laterS l (yA (rs.map (·.1)) l ((P.drop k).map (·.1)))=((outP (rs[rk]'hq.hk).1 l (P[k]).1.2.2).length:Int)-((zC l x:Int)-x)+laterS l (yA (rs.map (·.1)) l ((P.drop (k+1)).map (·.1))):=by
   rw [List.drop_eq_getElem_cons hlt,List.map_cons]
   unfold yA
   rw [List.map_cons,hq.mk',laterS]
  have hxl:=hq.hl
  have hon:=hq.hn
  have hrk:=hq.hk
  rw [hq.hr,hq.hx] at hcell
  have hsz2:=HSZ.out
  rw [hsum] at hsz2
  have HCELL:=Hd hcell
  have hge:=zN HU.out hxl
  clear hsum hcell hqm HSZ
  generalize rs[rk]=X at *
  obtain ⟨r,vh,vf,vy⟩:=X
  generalize P[k]=q at *
  obtain ⟨⟨q1,q2,bs⟩,vq⟩:=q
  simp only [] at HCELL hcm hon hsz2
  generalize outP r l bs=O at *
  generalize zC l x=ex at *
  have HNX:Hid (∀ w',Below w.heap.size w w'→ltRel rs l P T w (.int .i64 (s+(O.length:Int)-((ex:Int)-(x:Int)))) (.int .i64 ((k:Int)+1)) w'):=Hd fun w' hb=>⟨k+1,s+(O.length:Int)-((ex:Int)-(x:Int)),by push_cast;rfl,rfl,hlt,by omega,by push_cast;omega,by push_cast;omega,hb⟩
  clear hsz2
  have hk0:(0:Int)≤(k:Int):=by omega
  have hkl:(k:Int)<P.length:=by omega
  have hkc:(k:Int)<cp:=by omega
  have hr0:(0:Int)≤(rk:Int):=by omega
  have hrl:(rk:Int)<rs.length:=by omega
  have hrc:(rk:Int)<cr:=by omega
  have hwk:IntKind.i64.wrap ((k:Int)+1)=(k:Int)+1:=wI (by omega)
  have hwa:IntKind.i64.wrap (s+(O.length:Int))=s+(O.length:Int):=wI (by omega)
  have hwb:IntKind.i64.wrap ((ex:Int)-(x:Int))=(ex:Int)-(x:Int):=wI (by omega)
  have hwc:IntKind.i64.wrap (s+(O.length:Int)-((ex:Int)-(x:Int)))=s+(O.length:Int)-((ex:Int)-(x:Int)):=wI (by omega)
  have HS0:Hid (∀ W,Below wr.heap.size wr W→(fun W=>W.cell? ⟨pb,po+k*3,none⟩=some (.int .i64 (rk:Int))∧W.cell? ⟨pb,po+k*3+1,none⟩=some (.int .i64 (x:Int))∧W.cell? ⟨pb,po+k*3+2,none⟩=some vq∧W.cell? ⟨rb,ro+rk*5,none⟩=some (.string r.nm)∧W.cell? ⟨rb,ro+rk*5+1,none⟩=some (.int .u8 (r.goal:Int))∧W.cell? ⟨rb,ro+rk*5+2,none⟩=some vh∧W.cell? ⟨rb,ro+rk*5+3,none⟩=some vf∧W.cell? ⟨rb,ro+rk*5+4,none⟩=some vy) W):=Hd fun W hb=>HCELL.out W (zB HB.out hb)
  have HBD:=Hd ((Below.refl wr.heap.size wr).drew)
  go_upto_region 5 with (fail)
  go_region_held3 (fun W=>W.cell? ⟨pb,po+k*3,none⟩=some (.int .i64 (rk:Int))∧W.cell? ⟨pb,po+k*3+1,none⟩=some (.int .i64 (x:Int))∧W.cell? ⟨pb,po+k*3+2,none⟩=some vq∧W.cell? ⟨rb,ro+rk*5,none⟩=some (.string r.nm)∧W.cell? ⟨rb,ro+rk*5+1,none⟩=some (.int .u8 (r.goal:Int))∧W.cell? ⟨rb,ro+rk*5+2,none⟩=some vh∧W.cell? ⟨rb,ro+rk*5+3,none⟩=some vf∧W.cell? ⟨rb,ro+rk*5+4,none⟩=some vy) (first | exact HS0.out _ HBD.out | exact HS0.out _ HB5.out) ((go_at_call 25;(with_reducible refine (hcm.out _ (zB HB.out HBD.out)).mono ?_);intro e w5 h5;unfold madeOK at h5;obtain ⟨ov,nv,rfl,hb5,ho5,-⟩:=h5;have HB5:=Hd (zB HBD.out hb5);have HO5:=Hd (ho5 w5 (Above.refl _ _));clear hb5 ho5;(try dsimp only)))
  obtain ⟨oa,oc,rfl,hoc⟩:=zD.slice HO5.out
  rw [List.length_map] at hoc ⊢
  clear HO5
  have HBD6:=Hd (HB5.out.drew)
  go_upto_region 6 with (fail)
  go_region_held3 (fun W=>W.cell? ⟨pb,po+k*3,none⟩=some (.int .i64 (rk:Int))∧W.cell? ⟨pb,po+k*3+1,none⟩=some (.int .i64 (x:Int))∧W.cell? ⟨pb,po+k*3+2,none⟩=some vq∧W.cell? ⟨rb,ro+rk*5,none⟩=some (.string r.nm)∧W.cell? ⟨rb,ro+rk*5+1,none⟩=some (.int .u8 (r.goal:Int))∧W.cell? ⟨rb,ro+rk*5+2,none⟩=some vh∧W.cell? ⟨rb,ro+rk*5+3,none⟩=some vf∧W.cell? ⟨rb,ro+rk*5+4,none⟩=some vy) (exact HS0.out _ HBD6.out) ((go_at_call 28;(with_reducible refine (CEx.out _ (zB HB.out HBD6.out)).mono ?_);rintro e w6 ⟨rfl,rfl⟩;(try dsimp only)))
  have HX:=Hd (HNX.out _ (zB HB.out HBD6.out))
  go_wp2_with fail
  exact ⟨HX.out,by simp only [intOf];omega⟩
end Go.Proofs.YtfalelkfhandfaaGreatDoor
namespace Go.Proofs.YtfalelkfhandfaaGreatDoor
set_option linter.all false

theorem zEp {rules:List RuleM} {l:List Prt}:∀ {P:List Pk} {free:Nat} {size:Int},yE rules l P free size=0→∀ p∈P,∃ r,rules[p.1.toNat]?=some r∧0≤p.2.1∧p.2.1<l.length∧mkOf rules l p=(p.2.1.toNat,outP r l p.2.2,xX r l p.2.2-1)∧rightB r l p.2.2=true∧(outP r l p.2.2).length≤131072
 | [],_,_,_,p,hp=>by cases hp
 | (n,x,bs)::P,free,size,h,p,hp=>by
  obtain ⟨h1,h2,h3,r,hr,h4,h5,h6,h7⟩:=zAy h
  rcases List.mem_cons.1 hp with rfl | hp
  ·exact ⟨r,hr,by show 0≤x;omega,h3,zDr hr,h4,h5⟩
  ·exact zEp h7 p hp
theorem zKv {rules:List RuleM} {l:List Prt}:∀ {P:List Pk} {free:Nat} {size:Int},yE rules l P free size=0→size+laterS l (yA rules l P)≤131072
 | [],_,size,h=>by
  rw [yE] at h
  show size+laterS l []≤131072
  rw [laterS]
  split at h
  ·cases h
  ·omega
 | (n,x,bs)::P,free,size,h=>by
  obtain ⟨h1,h2,h3,r,hr,h4,h5,h6,h7⟩:=zAy h
  have ih:=zKv h7
  have e:yA rules l ((n,x,bs)::P)=(x.toNat,outP r l bs,xX r l bs-1)::yA rules l P:=by
   unfold yA
   rw [List.map_cons,zDr hr]
  rw [e,laterS]
  omega
theorem fR {rules:List RuleM} {l:List Prt} {P:List Pk} (hw:zZ l=true) (h:yE rules l P ((0:Nat):Int) l.length=0):(stepOut rules l P).length≤131072:=by
 have h1:=zKv h
 have h2:=fV l (yA rules l P) (zK hw) (yA rules l P) (l.length+1) 0 (gU h) (by omega) (Nat.zero_le _)
 rw [jV] at h2
 unfold stepOut
 omega
theorem zIy {rules:List RuleM} {l:List Prt} {P:List Pk} (hw:zZ l=true) (hl:SmallL l) (hr:∀ r∈rules,SmallR r) (h:yE rules l P ((0:Nat):Int) l.length=0):SmallL ((stepOut rules l P).map (·.1)):=by
 refine ⟨by rw [List.length_map];have:=fR hw h;omega,fun q hq=>?_⟩
 obtain ⟨y,hy,rfl⟩:=List.mem_map.1 hq
 unfold stepOut at hy
 rcases zCh l _ (zK hw) _ _ _ y hy with ⟨j,hj,rfl⟩ | ⟨p,hp,hy⟩
 ·have e:zR l j=l[j]:=by unfold zR;simp [List.getD_eq_getElem?_getD,hj]
  have:=hl.2 _ (List.getElem_mem hj)
  unfold stayN
  simp only [e]
  exact this
 ·unfold yA at hp
  obtain ⟨x,hx,rfl⟩:=List.mem_map.1 hp
  obtain ⟨r,hr1,_,_,e,_,_⟩:=zEp h x hx
  rw [e] at hy
  have hrm:r∈rules:=by
   obtain ⟨i,hi⟩:=List.getElem?_eq_some_iff.1 hr1
   rw [← hi];exact List.getElem_mem _
  have hm:=(zRp (t:=r.by') (l:=l) (hs:=r.holes) (b:=bOf x.2.2) (hr r hrm).b hl (fuelZ r.by')).1 0
  have hy:y∈outP r l x.2.2:=hy
  unfold outP at hy
  split at hy
  ·exact hm y (List.mem_of_mem_drop hy)
  ·exact hm y hy
theorem zRh (l:List Prt) (A:List Mk) (n:Nat):∀ P:List Mk,outGo l A (n+1) l.length P=[]
 | []=>by rw [outGo,if_neg (by omega)]
 | (x,m,d)::R=>by rw [outGo,if_neg (by omega)]
theorem Free.tail {l:List Prt} {i:Nat} {x:Nat} {m:List PN} {d:Int} {R:List Mk} (h:Free l i ((x,m,d)::R)) (hi:x≠i):Free l (i+1) ((x,m,d)::R):=by
 obtain ⟨h1,h2,h3⟩:=h
 exact ⟨by omega,h2,h3⟩
theorem zMj {rules:List RuleM} {l:List Prt} {P:List Pk} (h:∀ p∈yA rules l P,-1≤p.2.2∧p.2.2≤131072) (hp:P.length≤1048576) (i:Nat):-137438953472≤yO l (yA rules l P) i∧yO l (yA rules l P) i≤137438953472:=by
 have:=zCi l i _ h
 have e:(yA rules l P).length=P.length:=by unfold yA;simp
 rw [e] at this
 omega
end Go.Proofs.YtfalelkfhandfaaGreatDoor
namespace Go.Proofs.YtfalelkfhandfaaGreatDoor
set_option linter.all false
attribute [local irreducible] Calls
open Go.RowKit

end Go.Proofs.YtfalelkfhandfaaGreatDoor
namespace Go.Proofs.YtfalelkfhandfaaGreatDoor
set_option linter.all false
open Go.RowKit

structure HeldM (w:World):Prop where
 T:Tabs w
 M:MaxC w
theorem HeldM.below {w w':World} (h:HeldM w) (hb:Below w.heap.size w w'):HeldM w':=⟨h.T.below hb,h.M.below hb⟩
@[irreducible] def AnswersM (w:World) (e:Ending) (w':World):Prop:=e=.returned (.bool true)∧Below w.heap.size w w'
theorem AnswersM.mk {w w':World} (h:Below w.heap.size w w'):AnswersM w (.returned (.bool true)) w':=by unfold AnswersM;exact ⟨rfl,h⟩
theorem AnswersM.out {w w':World} {e:Ending} (h:AnswersM w e w'):e=.returned (.bool true)∧Below w.heap.size w w':=by unfold AnswersM at h;exact h
end Go.Proofs.YtfalelkfhandfaaGreatDoor
