/- Layer 20: what Fill answers. -/
import Derived.Test.YtmklemelgdilkaaGreatDoorInstPMk
import Derived.Test.YtmklemelgdilkaaGreatDoorRulesVMk
import Derived.Test.YtmklemelgdilkaaGreatDoorTermMk
import Derived.Test.YtmklemelgdilkaaGreatDoorMakHMk
import Derived.Test.YtmklemelgdilkaaGreatDoorMakTMk
import Derived.Test.YtmklemelgdilkaaGreatDoorFillPMk
import Derived.Test.YtmklemelgdilkaaGreatDoorFillBMk
import Derived.Test.YtmklemelgdilkaaGreatDoorFillCMk
import Derived.Test.YtmklemelgdilkaaGreatDoorPackMk
import Derived.Test.YtmklemelgdilkaaGreatDoorTermQMk
import Derived.Test.YtmklemelgdilkaaGreatDoorTreesFMk
import Derived.Test.YtmklemelgdilkaaGreatDoorCheckBMk
namespace Go.Proofs.YtmklemelgdilkaaGreatDoor
set_option linter.all false
open Go.RowKit

@[irreducible] def fillPost (r:RuleM) (l:List Prt) (bs:List Bnd) (w0:World) (e:Ending) (w':World):Prop :=
 Below w0.heap.size w0 w'∧∃ ov nv,e=.returned (.tuple #[ov,nv,.int .i64 (fillZ r l bs).2])∧PartRow w' ov ((fillZ r l bs).1.map (·.1))∧RowInts w' nv .i64 ((fillZ r l bs).1.map (·.2))
theorem fillPost.no {r:RuleM} {l:List Prt} {bs:List Bnd} {w0 w':World} {z:Int} (h:fillZ r l bs=([],z)) (hb:Below w0.heap.size w0 w'):fillPost r l bs w0 (.returned (.tuple #[.slice none 0 0,.slice none 0 0,.int .i64 z])) w':=by
 unfold fillPost
 rw [h]
 exact ⟨hb,_,_,rfl,Row.of_owns (World.ownsRow_nil _ 0 45 3),Row.of_owns (World.ownsRow_nil _ 0 3 1)⟩
theorem fill_err {r:RuleM} {l:List Prt} {bs:List Bnd} (h:ruleZ r≠0):fillZ r l bs=([],ruleZ r):=by unfold fillZ;rw [if_pos h]
theorem fill_tree {r:RuleM} {l:List Prt} {bs:List Bnd} (h:ruleZ r=0) (h2:wellB l=false):fillZ r l bs=([],8):=by unfold fillZ;rw [if_neg (by simp [h]),if_pos h2]
theorem fill_arg {r:RuleM} {l:List Prt} {bs:List Bnd} (h:ruleZ r=0) (h2:wellB l=true) (h3:rightB r l bs=false):fillZ r l bs=([],1):=by unfold fillZ;rw [if_neg (by simp [h]),if_neg (by simp [h2]),if_pos h3]
theorem fill_long {r:RuleM} {l:List Prt} {bs:List Bnd} (h:ruleZ r=0) (h2:wellB l=true) (h3:rightB r l bs=true) (h4:131072<(outP r l bs).length):fillZ r l bs=([],2):=by unfold fillZ;rw [if_neg (by simp [h]),if_neg (by simp [h2]),if_neg (by simp [h3]),if_pos h4]
theorem fill_ok {r:RuleM} {l:List Prt} {bs:List Bnd} (h:ruleZ r=0) (h2:wellB l=true) (h3:rightB r l bs=true) (h4:¬ 131072<(outP r l bs).length):fillZ r l bs=(outP r l bs,0):=by unfold fillZ;rw [if_neg (by simp [h]),if_neg (by simp [h2]),if_neg (by simp [h3]),if_neg h4]
theorem rule_kinds {r:RuleM} (h:ruleZ r=0):∀ x∈r.holes,1≤x.2∧x.2≤7:=by
 intro x hx
 obtain ⟨i,hi,rfl⟩:=List.mem_iff_getElem.1 hx
 exact (holeB_inv hi ((ruleZ_inv h).2.2.2.2.2.2.2 i hi)).2.2.1
end Go.Proofs.YtmklemelgdilkaaGreatDoor
namespace Go.Proofs.YtmklemelgdilkaaGreatDoor
set_option linter.all false
attribute [local irreducible] Calls
attribute [local irreducible] wpStill
open Go.RowKit

theorem Row.same2 {w w':World} {v:Value} {n sz:Nat} {cs:List Value} (h:Row w v n sz cs) (hk:∀ b,v.ownBlock=some b→b<w.heap.size→b<w'.heap.size∧w'.heap[b]?=w.heap[b]?):Row w' v n sz cs:=by
 obtain ⟨h1,a,cap,hv,hc,hz,h2⟩:=h
 refine ⟨h1,a,cap,hv,hc,hz,fun hn=>?_⟩
 obtain ⟨b,off,ha,hlt,hcell⟩:=h2 hn
 subst ha
 obtain ⟨k1,k2⟩:=hk b (by rw [hv];rfl) hlt
 refine ⟨b,off,rfl,k1,fun i hi=>?_⟩
 rw [← hcell i hi]
 simp only [World.cell?,k2]
structure WkS (E:MkE) (gm gy gw:Nat) (vy:Value) (W:World):Prop where
 m:W.heap[gm]?=some (.cells #[.pointer (some ⟨E.g,0,none⟩)] 54 (0,0))
 y:W.heap[gy]?=some (.cells #[vy] 27 (0,0))
 w:W.heap[gw]?=some (.cells #[.func (.func 37) #[] #[.pointer (some ⟨gm,0,none⟩),.pointer (some ⟨gy,0,none⟩),.pointer (some ⟨gw,0,none⟩)]] 70 (0,0))
 r:RowInts W vy .i64 (endsL E.r.by')
 lt:gm<E.B∧gy<E.B∧gw<E.B∧gm≠E.g∧gy≠E.g∧gw≠E.g
 rb:∀ b,vy.ownBlock=some b→b<E.B∧b≠E.g
theorem WkS.below {E:MkE} {gm gy gw:Nat} {vy:Value} {W W':World} (h:WkS E gm gy gw vy W) (hb:Below W.heap.size W W'):WkS E gm gy gw vy W' :=
 ⟨keeps hb h.m,keeps hb h.y,keeps hb h.w,h.r.below hb,h.lt,h.rb⟩
theorem WkS.kc {w0:World} {E:MkE} {gm gy gw:Nat} {vy ov fv ov' fv':Value} {out:List PN} {lg:Bool} {W W':World} (h:WkS E gm gy gw vy W) (hi:MkIn w0 E out lg ov fv W) (k:KpC E.g ov fv ov' fv' W W'):WkS E gm gy gw vy W':=by
 have key:∀ b,b<E.B→b≠E.g→W'.heap[b]?=W.heap[b]?:=fun b h1 h2=>k.low b (by have:=hi.B;omega) h2 (fun e=>by have:=(hi.o.lt b e).1;omega) (fun e=>by have:=(hi.f.lt b e).1;omega)
 obtain ⟨l1,l2,l3,l4,l5,l6⟩:=h.lt
 refine ⟨by rw [key gm l1 l4];exact h.m,by rw [key gy l2 l5];exact h.y,by rw [key gw l3 l6];exact h.w,Row.same2 h.r fun b e hlt=>⟨Nat.lt_of_lt_of_le hlt k.size,key b (h.rb b e).1 (h.rb b e).2⟩,h.lt,h.rb⟩
theorem WkS.cells {E:MkE} {gm gy gw:Nat} {vy:Value} {W:World} (h:WkS E gm gy gw vy W):W.cell? ⟨gm,0,none⟩=some (.pointer (some ⟨E.g,0,none⟩))∧W.cell? ⟨gy,0,none⟩=some vy∧W.cell? ⟨gw,0,none⟩=some (.func (.func 37) #[] #[.pointer (some ⟨gm,0,none⟩),.pointer (some ⟨gy,0,none⟩),.pointer (some ⟨gw,0,none⟩)]):=by
 simp [World.cell?,h.m,h.y,h.w]
abbrev mkM (E:MkE) (n p:Nat):List PN:=mPart E.r.by' E.l E.r.holes (bOf E.bs) n p
def WalkC (w0:World) (E:MkE) (gm gy gw:Nat) (vy:Value) (n:Nat):Prop:=∀ (W:World) (out:List PN) (lg:Bool) (ov fv:Value) (p:Nat),MkIn w0 E out lg ov fv W→WkS E gm gy gw vy W→out.length≤131073→p<E.r.by'.length→2*(endB E.r.by' p-p)≤n→(mkM E n p).length≤2000000000000 →
 Calls Tryz.prog 37 #[.int .i64 (p:Int),.pointer (some ⟨gm,0,none⟩),.pointer (some ⟨gy,0,none⟩),.pointer (some ⟨gw,0,none⟩)] W (mkPost w0 E out lg ov fv (mkM E n p) W fun u=>u=.int .i64 (cntP ((mkM E n p).map (·.1)):Int))
def whRel (w0:World) (E:MkE) (f t:Nat) (out:List PN) (lg:Bool) (ov fv:Value) (W2:World) (iv:Value) (wr:World):Prop :=
 ∃ (i:Nat) (out':List PN) (lg':Bool) (ov' fv':Value),iv=.int .i64 (i:Int)∧f≤i∧i≤t∧mkGo out lg (srcL E.l f i) out' lg'∧out'.length≤131073∧MkIn w0 E out' lg' ov' fv' wr∧KpC E.g ov fv ov' fv' W2 wr
theorem mkPost.out {w0:World} {E:MkE} {out:List PN} {lg:Bool} {ov fv:Value} {M:List PN} {W:World} {v:Value→Prop} {e:Ending} {w':World} (h:mkPost w0 E out lg ov fv M W v e w'):∃ out' lg' ov' fv' u,e=.returned u∧v u∧mkGo out lg M out' lg'∧out'.length≤131073∧MkIn w0 E out' lg' ov' fv' w'∧KpC E.g ov fv ov' fv' W w':=by
 unfold mkPost at h;exact h
set_option maxRecDepth 100000 in
set_option maxHeartbeats 16000000 in
theorem wk_hole (w0:World) (E:MkE) (F:MkF w0 E) (gm gy gw:Nat) (vy:Value) (n:Nat) (W:World) (out:List PN) (lg:Bool) (ov fv:Value) (p:Nat) (hi:MkIn w0 E out lg ov fv W) (hw:WkS E gm gy gw vy W) (hn:out.length≤131073) (hp:p<E.r.by'.length) (h:Nat) (ho:holeOf E.r.by' E.r.holes p=some h) :
  Calls Tryz.prog 37 #[.int .i64 (p:Int),.pointer (some ⟨gm,0,none⟩),.pointer (some ⟨gy,0,none⟩),.pointer (some ⟨gw,0,none⟩)] W (mkPost w0 E out lg ov fv (mkM E (n+1) p) W fun u=>u=.int .i64 (cntP ((mkM E (n+1) p).map (·.1)):Int)):=by
 have hrow:=right_rows F.rt h
 have hin:=bOf_in (right_in F.rt) h
 rw [show mkM E (n+1) p=srcL E.l (bOf E.bs h).1 (bOf E.bs h).2 from mp_hole ho,srcL_fst E.l hin.1 hin.2]
 have hhl:h<E.r.holes.length:=(holeOf_inv ho).1
 have hhb:h<E.bs.length:=by rw [F.bl];exact hhl
 obtain ⟨f,t,hf,ht,hft,htl⟩:∃ f t:Nat,(E.bs[h]).2.1=(f:Int)∧(E.bs[h]).2.2=(t:Int)∧f≤t∧t≤E.l.length:=by
  have:=right_in F.rt _ (List.getElem_mem hhb)
  exact ⟨(E.bs[h]).2.1.toNat,(E.bs[h]).2.2.toNat,by omega,by omega,by omega,by omega⟩
 have hbo:bOf E.bs h=(f,t):=by rw [bOf_at hhb,hf,ht];rfl
 rw [hbo] at hrow ⊢
 simp only [] at hrow ⊢
 obtain ⟨ts,hts⟩:=hrow
 have hll:=F.sl.1
 have HYES:RowKit.Hid (∀ w' out' lg' ov' fv',mkGo out lg (srcL E.l f t) out' lg'→out'.length≤131073→MkIn w0 E out' lg' ov' fv' w'→KpC E.g ov fv ov' fv' W w'→mkPost w0 E out lg ov fv (srcL E.l f t) W (fun u=>u=.int .i64 (cntP (piece E.l f t):Int)) (.returned (.int .i64 (cntP (piece E.l f t):Int))) w'):=Hd fun w' out' lg' ov' fv' h1 h2 h3 h4=>by
  unfold mkPost;exact ⟨out',lg',ov',fv',_,rfl,rfl,h1,h2,h3,h4⟩
 have C1:=Hd (mk_hole w0 E F out lg ov fv W hi p hp)
 have CP:=Hd (fun W out lg ov fv (hi:MkIn w0 E out lg ov fv W) hn p nf=>mk_put w0 E out lg ov fv W hi hn p nf)
 have CT:=Hd (fun W' (hb:Below w0.heap.size w0 W')=>fill_trees E.l (by omega) _ (well_rows F.wl) E.ve f t hft htl W' (F.N.below hb))
 have hcn:treesZ (piece E.l f t)=(cntP (piece E.l f t):Int):=trees_cnt hts
 have hcl:cntP (piece E.l f t)≤E.l.length:=by
  rw [cntP_of hts]
  have:=(rowsB_sum hts).2.1
  have h2:=piece_len hft htl
  omega
 obtain ⟨la,lc,hvl,hlc⟩:=F.L.slice
 have HLR:RowKit.Hid (PartRow w0 (.slice la E.l.length lc) E.l):=Hd (hvl ▸ F.L)
 obtain ⟨ea,ec,hve,hec,_⟩:=F.N.open'
 have hcm:=hw.cells.1
 have HI:=Hd hi
 have HWK:=Hd hw
 have HCN:=Hd hcn
 generalize mkPost w0 E out lg ov fv (srcL E.l f t) W (fun u=>u=.int .i64 (cntP (piece E.l f t):Int))=Q at *
 clear hi hw hts hcn F
 go_enter Tryz.func37,Tryz.ntmps37
 go_wp2_with fail
 refine C1.out.mono ?_
 intro e w1 h1
 unfold mkHolePost at h1
 rw [ho] at h1
 obtain ⟨hb1,hh2,rfl⟩:=h1
 unfold bindA
 rw [hf,ht]
 generalize (E.bs[h]).1=bn
 have HB1:=Hd hb1
 clear hb1 C1 hcm
 have HB2:RowKit.Hid (Below W.heap.size W (w1.alloc (.cells #[.string bn,.int .i64 (f:Int),.int .i64 (t:Int)] 48))):=Hd (HB1.out.alloc HB1.out.size _)
 have HD2:RowKit.Hid (BdK (w1.alloc (.cells #[.string bn,.int .i64 (f:Int),.int .i64 (t:Int)] 48)) w1.heap.size (bn,(f:Int),(t:Int))):=Hd (heap_alloc_new _ _)
 have hg1:W.heap.size≤w1.heap.size:=HB1.out.size
 go_upto_region 3 with (fail)
 generalize w1.alloc (.cells #[.string bn,.int .i64 (f:Int),.int .i64 (t:Int)] 48)=W2 at *
 generalize w1.heap.size=g2 at *
 have HI2:=Hd (HI.out.below HB2.out)
 have HW2:=Hd (HWK.out.below HB2.out)
 have hgg:E.g<W.heap.size:=keeps_lt HI.out.s
 have hg2:g2<W2.heap.size:=keeps_lt HD2.out
 have HG2:RowKit.Hid (g2≠E.g∧ov.ownBlock≠some g2∧fv.ownBlock≠some g2):=Hd ⟨by omega,fun e=>by have:=(HI.out.o.lt _ e).2;omega,fun e=>by have:=(HI.out.f.lt _ e).2;omega⟩
 obtain ⟨b0,b1,b2⟩:=HD2.out.cells
 simp only [] at b0 b1 b2
 go_wp2_with fail
 clear b0 b1 b2
 go_loopw [8] (fun iv wr=>whRel w0 E f t out lg ov fv W2 iv wr) (fun iv _=>t-(intOf iv).toNat)
 case atStart=>exact ⟨f,out,lg,ov,fv,rfl,Nat.le_refl _,hft,by rw [srcL_nil E.l (Nat.le_refl f)];exact mkGo.nil out lg hn,hn,HI2.out,KpC.refl _ _ _ _⟩
 case round =>
  obtain ⟨i,out',lg',ov',fv',rfl,hfi,hit,hgo,hol,hii,hkk⟩:=hrel
  have HGO:=Hd hgo
  have HII:=Hd hii
  have HKK:=Hd hkk
  clear hgo hii hkk
  have HWW:=Hd (HW2.out.kc HI2.out HKK.out)
  have HDD:RowKit.Hid (BdK wr g2 (bn,(f:Int),(t:Int))):=Hd (by
   have h:=HD2.out
   unfold BdK at *
   rw [HKK.out.low g2 hg2 HG2.out.1 HG2.out.2.1 HG2.out.2.2];exact h)
  obtain ⟨b0,b1,b2⟩:=HDD.out.cells
  simp only [] at b0 b1 b2
  obtain ⟨m0,m1,m2⟩:=HWW.out.cells
  clear m1 m2
  obtain ⟨c0,c1,c2,c3,c4,c5,c6,c7,c8,c9,c10,cz⟩:=HII.out.s.cells
  clear c0 c1 c2 c3 c4 c7 c8 c9 cz
  rw [hvl] at c5
  rw [hve] at c6
  have HFIN:RowKit.Hid (mkGo out lg (srcL E.l f t) out' lg'→∀ w',Below wr.heap.size wr w'→Q (.returned (.int .i64 (cntP (piece E.l f t):Int))) w'):=Hd fun h w' hb=>HYES.out w' out' lg' ov' fv' h hol (HII.out.below hb) (((KpC.of_below HB2.out).trans HKK.out).trans (KpC.of_below hb))
  by_cases hlt:i<t∧lg'=false
  case neg =>
   have HFI:=Hd (HFIN.out (by
    by_cases e:i<t
    ·have:lg'=true:=by
      cases lg' with
      | true=>rfl
      | false=>exact absurd ⟨e,rfl⟩ hlt
     subst this
     rw [srcL_add E.l hfi hit]
     exact HGO.out.long
    ·obtain rfl:i=t:=by omega
     exact HGO.out))
   have HBS:RowKit.Hid (∀ W',Below wr.heap.size wr W'→(W'.cell? ⟨gm,0,none⟩=some (.pointer (some ⟨E.g,0,none⟩))∧W'.cell? ⟨E.g,6,none⟩=some (.slice ea (endsL E.l).length ec)∧W'.cell? ⟨g2,1,none⟩=some (.int .i64 (f:Int))∧W'.cell? ⟨g2,2,none⟩=some (.int .i64 (t:Int)))):=Hd fun W' hb=>⟨(HWW.out.below hb).cells.1,by rw [(HII.out.below hb).s.cells.2.2.2.2.2.2.1,hve],(HDD.out.keep hb).cells.2.1,(HDD.out.keep hb).cells.2.2⟩
   have CT2:=Hd (CT.out wr.drew (bthen HII.out.b (Below.refl _ _).drew))
   rw [hve] at CT2
   have hcase:lg'=true∨¬ (i:Int)<(t:Int):=by
    cases lg' with
    | true=>exact Or.inl rfl
    | false=>exact Or.inr (fun h=>hlt ⟨by omega,rfl⟩)
   clear hlt
   have hwn:=HCN.out
   have HTT:=Hd hwn
   have HRUN:RowKit.Hid (∀ w',Below wr.heap.size wr w'→Q (.returned (.int .i64 (cntP (piece E.l f t):Int))) w'):=Hd HFI.out
   clear hwn HGO hit hfi
   rcases hcase with rfl | hni
   ·by_cases hlt:(i:Int)<(t:Int)
    all_goals
     go_upto_region 7 with (fail)
     clear b0 b1 b2 m0 c5 c6 c10
     go_region_held3 (fun W'=>W'.cell? ⟨gm,0,none⟩=some (.pointer (some ⟨E.g,0,none⟩))∧W'.cell? ⟨E.g,6,none⟩=some (.slice ea (endsL E.l).length ec)∧W'.cell? ⟨g2,1,none⟩=some (.int .i64 (f:Int))∧W'.cell? ⟨g2,2,none⟩=some (.int .i64 (t:Int))) (exact HBS.out _ (Below.refl _ _).drew) ((go_at_call 34;(with_reducible refine CT2.out.mono ?_);(rintro e w5 ⟨⟨k,x,hkl,rfl,h1,h2⟩,rfl⟩);(try dsimp only)))
     have hkx:k=cntP (piece E.l f t):=by
      cases x with
      | true=>have:=h1 rfl;have:=HTT.out;omega
      | false=>have:=h2 rfl;have:=HTT.out;omega
     have HX:=Hd (HRUN.out wr.drew (Below.refl _ _).drew)
     rw [← hkx] at HX
     clear hkx h1 h2
     go_wp2_with fail
     exact HX.out
   ·go_upto_region 7 with (fail)
    clear b0 b1 b2 m0 c5 c6 c10
    go_region_held3 (fun W'=>W'.cell? ⟨gm,0,none⟩=some (.pointer (some ⟨E.g,0,none⟩))∧W'.cell? ⟨E.g,6,none⟩=some (.slice ea (endsL E.l).length ec)∧W'.cell? ⟨g2,1,none⟩=some (.int .i64 (f:Int))∧W'.cell? ⟨g2,2,none⟩=some (.int .i64 (t:Int))) (exact HBS.out _ (Below.refl _ _).drew) ((go_at_call 34;(with_reducible refine CT2.out.mono ?_);(rintro e w5 ⟨⟨k,x,hkl,rfl,h1,h2⟩,rfl⟩);(try dsimp only)))
    have hkx:k=cntP (piece E.l f t):=by
     cases x with
     | true=>have:=h1 rfl;have:=HTT.out;omega
     | false=>have:=h2 rfl;have:=HTT.out;omega
    have HX:=Hd (HRUN.out wr.drew (Below.refl _ _).drew)
    rw [← hkx] at HX
    clear hkx h1 h2
    go_wp2_with fail
    exact HX.out
  obtain ⟨hlt,rfl⟩:=hlt
  have hll1:i<E.l.length:=by omega
  obtain ⟨lb,lo,rfl,y1,y2,y3,y4⟩:=HLR.out.at HII.out.b (show 0<E.l.length by omega)
  clear y1 y2 y3 y4
  have hpt:ptAt E.l i=E.l[i]:=by unfold ptAt;simp [List.getD_eq_getElem?_getD,hll1]
  have HBS:RowKit.Hid (∀ W',Below wr.heap.size wr W'→(W'.cell? ⟨gm,0,none⟩=some (.pointer (some ⟨E.g,0,none⟩))∧W'.cell? ⟨E.g,5,none⟩=some (.slice (some ⟨lb,lo,none⟩) E.l.length lc)∧W'.cell? ⟨lb,lo+i*3,none⟩=some (.int .u8 ((ptAt E.l i).1:Int))∧W'.cell? ⟨lb,lo+i*3+1,none⟩=some (.int .i64 (ptAt E.l i).2.1)∧W'.cell? ⟨lb,lo+i*3+2,none⟩=some (.string (ptAt E.l i).2.2))):=Hd fun W' hb=>⟨(HWW.out.below hb).cells.1,by rw [(HII.out.below hb).s.cells.2.2.2.2.2.1,hvl],by
   obtain ⟨b2,o2,e',_,_,_,hcc⟩:=HLR.out.at (bthen HII.out.b hb) (show 0<E.l.length by omega)
   simp only [Option.some.injEq,Addr.mk.injEq,and_true] at e'
   obtain ⟨rfl,rfl⟩:=e'
   rw [hpt]
   exact hcc i hll1⟩
  have HBF:RowKit.Hid (∀ W' o2 l2 v2 f2,MkIn w0 E o2 l2 v2 f2 W'→KpC E.g ov' fv' v2 f2 wr.drew W'→(W'.cell? ⟨gm,0,none⟩=some (.pointer (some ⟨E.g,0,none⟩))∧W'.cell? ⟨E.g,5,none⟩=some (.slice (some ⟨lb,lo,none⟩) E.l.length lc)∧W'.cell? ⟨lb,lo+i*3,none⟩=some (.int .u8 ((ptAt E.l i).1:Int))∧W'.cell? ⟨lb,lo+i*3+1,none⟩=some (.int .i64 (ptAt E.l i).2.1)∧W'.cell? ⟨lb,lo+i*3+2,none⟩=some (.string (ptAt E.l i).2.2))):=Hd fun W' o2 l2 v2 f2 h3 h4=>⟨((HWW.out.below (Below.refl _ _).drew).kc (HII.out.below (Below.refl _ _).drew) h4).cells.1,by rw [h3.s.cells.2.2.2.2.2.1,hvl],by
   obtain ⟨b2,o2,e',_,_,_,hcc⟩:=HLR.out.at h3.b (show 0<E.l.length by omega)
   simp only [Option.some.injEq,Addr.mk.injEq,and_true] at e'
   obtain ⟨rfl,rfl⟩:=e'
   rw [hpt]
   exact hcc i hll1⟩
  have CP2:=Hd (CP.out wr.drew out' false ov' fv' (HII.out.below (Below.refl _ _).drew) hol (ptAt E.l i) (i:Int))
  have HX0:RowKit.Hid (∀ w6 o2 l2 v2 f2,mkGo out' false [(ptAt E.l i,(i:Int))] o2 l2→o2.length≤131073→MkIn w0 E o2 l2 v2 f2 w6→KpC E.g ov' fv' v2 f2 wr.drew w6→whRel w0 E f t out lg ov fv W2 (.int .i64 ((i:Int)+1)) w6):=Hd fun w6 o2 l2 v2 f2 h1 h2 h3 h4=>⟨i+1,o2,l2,v2,f2,by push_cast;rfl,by omega,hlt,by rw [srcL_snoc E.l hfi];exact HGO.out.app h1,h2,h3,(HKK.out.trans (KpC.of_below (Below.refl _ _).drew)).trans h4⟩
  have hi0:(0:Int)≤(i:Int):=by omega
  have hil:(i:Int)<E.l.length:=by omega
  have hic:(i:Int)<lc:=by omega
  have hiti:(i:Int)<(t:Int):=by omega
  unfold partA at CP2
  clear hpt HFIN CP CT HCN HGO hve hcl HKK
  generalize ptAt E.l i=pp at *
  obtain ⟨pk,pn,pw⟩:=pp
  simp only [] at HBS CP2 HBF
  go_upto_region 6 with (fail)
  clear b0 b1 b2 m0 c5 c6 c10
  go_region_held3 (fun W'=>W'.cell? ⟨gm,0,none⟩=some (.pointer (some ⟨E.g,0,none⟩))∧W'.cell? ⟨E.g,5,none⟩=some (.slice (some ⟨lb,lo,none⟩) E.l.length lc)∧W'.cell? ⟨lb,lo+i*3,none⟩=some (.int .u8 (pk:Int))∧W'.cell? ⟨lb,lo+i*3+1,none⟩=some (.int .i64 pn)∧W'.cell? ⟨lb,lo+i*3+2,none⟩=some (.string pw)) (first | exact HBS.out _ (Below.refl _ _).drew | exact HB6.out) ((go_at_call 39;(with_reducible refine CP2.out.mono ?_);(intro e w6 h6;obtain ⟨o2,l2,v2,f2,u,rfl,_,hgo2,hol2,hi2,hk2⟩:=h6.out;have HB6:=Hd (HBF.out w6 o2 l2 v2 f2 hi2 hk2));(try dsimp only)))
  have HX:=Hd (HX0.out w6 o2 l2 v2 f2 hgo2 hol2 hi2 hk2)
  clear hgo2 hi2 hk2 h6
  go_wp2_with fail
  exact ⟨HX.out,by simp only [intOf];omega⟩
end Go.Proofs.YtmklemelgdilkaaGreatDoor
namespace Go.Proofs.YtmklemelgdilkaaGreatDoor
set_option linter.all false
attribute [local irreducible] Calls
attribute [local irreducible] wpStill
open Go.RowKit

def natV (ns:List Nat):List Value:=ns.map fun (n:Nat)=>Value.int .i64 (n:Int)
end Go.Proofs.YtmklemelgdilkaaGreatDoor
namespace Go.Proofs.YtmklemelgdilkaaGreatDoor
set_option linter.all false
open Go.RowKit

@[irreducible] def kidsOwn (ks:List Nat) (w0:World) (e:Ending) (w':World):Prop :=
 ∃ v,e=.returned v∧Below w0.heap.size w0 w'∧w'.ownsRow w0.heap.size 3 1 v ks.length (natV ks)
set_option maxRecDepth 100000 in
set_option maxHeartbeats 8000000 in
theorem ref_KidsOwn (l:List Prt) (hl:l.length≤1000000000) (us:List Nat) (hus:rowsB l=some us) (v:Value) (i:Nat) (hi:i<l.length) (w:World) (hr:PartRow w v l) :
  Calls Tryz.prog 46 #[v,.int .i64 (i:Int)] w (kidsOwn (kidsB l i) w):=by
 have HQ:RowKit.Hid (∀ v' w',Below w.heap.size w w'→w'.ownsRow w.heap.size 3 1 v' (kidsB l i).length (natV (kidsB l i))→kidsOwn (kidsB l i) w (.returned v') w'):=Hd fun v' w' h2 h3=>by
  unfold kidsOwn;exact ⟨v',rfl,h2,h3⟩
 have HR:=Hd hr
 obtain ⟨va,vcap,rfl,hvc⟩:=hr.slice
 clear hr
 obtain ⟨ts,q,f1,f2,f3,f4,f5⟩:=kids_facts hus hi
 have HST:=Hd (fun n (hn:n<q)=>kid_step hus f1 f3 hn)
 have HCE:=Hd (fun (W':World) (hb:Below w.heap.size w W') k (hk:k<l.length)=>show Calls Tryz.prog 27 #[.slice va l.length vcap,.int .i64 (k:Int)] W' fun e w'=>e=.returned (.int .i64 (endB l k:Int))∧W'=w' by
  have:=ref_End11 l hl _ k (by omega) W' (HR.out.below hb)
  rw [endR_end hus hk] at this
  exact this)
 have HK5:=Hd f5
 have HE4:=Hd f4
 have HQT:=Hd f3
 have hqt:ts.length≤l.length:=by have:=(rowsB_sum f1).2.1;rw [List.length_drop] at this;omega
 have hqb:q≤1000000000:=by omega
 have hee:=(endB_gt hus hi).2
 rw [f4] at hee
 obtain ⟨b,off,rfl,_,_,_,hcell⟩:=HR.out.at (Below.refl _ _) (show 0<l.length by omega)
 have hc1:=(hcell i hi).2.1
 rw [f2] at hc1
 have HC:RowKit.Hid (∀ W',Below w.heap.size w W'→W'.cell? ⟨b,off+i*3+1,none⟩=some (.int .i64 (q:Int))):=Hd fun W' hb=>by
  obtain ⟨b',off',hbb,_,_,_,hcc⟩:=HR.out.at hb (show 0<l.length by omega)
  simp only [Option.some.injEq,Addr.mk.injEq,and_true] at hbb
  obtain ⟨rfl,rfl⟩:=hbb
  rw [(hcc i hi).2.1,f2]
 generalize kidsOwn (kidsB l i) w=Q at *
 have hji:(i:Int)<l.length:=by omega
 have hj0:(0:Int)≤i:=by omega
 have hjc:(i:Int)<vcap:=by omega
 have hwj:IntKind.i64.wrap ((i:Int)+1)=(i:Int)+1:=by rw [IntKind.wrap_i64];omega
 clear f1 f2 f3 f4 f5 hcell hc1
 go_enter Tryz.func46,Tryz.ntmps46
 go_wp2_with fail
 go_loopw [5,6,7] (fun v k c wr=>∃ n:Nat,c=.int .i64 (n:Int)∧n≤q∧k=.int .i64 ((i+1+(ts.take n).sum:Nat):Int)∧wr.ownsRow w.heap.size 3 1 v n (((starts (i+1) ts).take n).map fun (x:Nat)=>Value.int .i64 (x:Int))∧Below w.heap.size w wr) (fun _ _ c _=>q-(intOf c).toNat)
 case atStart=>exact ⟨0,rfl,Nat.zero_le _,by simp,World.ownsRow_nil _ _ _ _,Below.refl _ _⟩
 case round =>
  obtain ⟨n,rfl,hn,rfl,ho,hb⟩:=hrel
  have HO:=Hd ho
  have HB:=Hd hb
  have HNN:=Hd hn
  obtain ⟨_,oa,oc,rfl,_,_,_⟩:=Row.of_owns ho
  have d0:=HC.out _ HB.out
  have hbs:=hb.size
  clear ho hb hn
  by_cases hlt:n<q
  ·obtain ⟨g1,g2,g3,g4,g5,g6⟩:=HST.out n hlt
   have HG3:=Hd g3
   have hlt':(n:Int)<q:=by omega
   have hC:=fun W' hb=>HCE.out W' hb _ g1
   rw [g2] at hC
   have HCK:=Hd hC
   have hnb:n≤1000000000:=by omega
   have HN1:RowKit.Hid (n+1≤q):=Hd hlt
   have HMS:RowKit.Hid (q-(n+1)<q-n):=Hd (by omega)
   have hwn:IntKind.i64.wrap ((n:Int)+1)=(n:Int)+1:=by rw [IntKind.wrap_i64];omega
   clear g1 g2 g3 g4 g5 g6 hC
   generalize hK1:i+1+(ts.take n).sum=K1 at *
   generalize hK2:i+1+(ts.take (n+1)).sum=K2 at *
   have HK2:=Hd hK2
   clear hK1 hK2
   go_wp2_with (at_builtin;refine wpList_append_lit wr #[.int .i64 (K1:Int)] _ rfl _ _ 27 3 rfl Tryz.underlying27 w.heap.size Tinfo_int rfl (by decide) _ _ _ rfl HO.out 1 1 rfl rfl (by decide) (by intro u hu;simp at hu;subst hu;rfl) (by omega) (by omega) hbs ?_)
   intro v' w' hown hgr _
   have hb':=grown_below HB.out hbs HO.out hgr
   have CK:=Hd (HCK.out w' hb')
   have HRL:RowKit.Hid (w'.ownsRow w.heap.size 3 1 v' (n+1) (((starts (i+1) ts).take (n+1)).map fun (x:Nat)=>Value.int .i64 (x:Int))∧Below w.heap.size w w'):=Hd ⟨by have h:=hown;rw [HG3.out];simpa using h,hb'⟩
   obtain ⟨_,va',vc',rfl,_,_,_⟩:=Row.of_owns hown
   clear hown hgr hb' d0
   go_wp2_with fail
   refine CK.out.mono ?_
   rintro e w2 ⟨rfl,rfl⟩
   go_wp2_with fail
   refine ⟨⟨n+1,congrArg (Value.int .i64) (by omega),HN1.out,by rw [HK2.out],HRL.out.1,HRL.out.2⟩,?_⟩
   have:=HMS.out
   simp only [intOf]
   omega
  ·have hnq:n=q:=by have:=HNN.out;omega
   subst hnq
   have HRW:RowKit.Hid (wr.ownsRow w.heap.size 3 1 (.slice oa n oc) (kidsB l i).length (natV (kidsB l i))):=Hd (by
    have e:(kidsB l i).length=n:=by rw [HK5.out,List.length_take,starts_length];have:=HQT.out;omega
    rw [e,HK5.out];exact HO.out)
   go_wp2_with fail
   exact HQ.out _ _ HB.out HRW.out
end Go.Proofs.YtmklemelgdilkaaGreatDoor
namespace Go.Proofs.YtmklemelgdilkaaGreatDoor
set_option linter.all false

theorem step_each {rules:List RuleM} {l:List Prt}:∀ {P:List Pk} {free:Nat} {size:Int},stepErr rules l P free size=0→∀ p∈P,∃ r,rules[p.1.toNat]?=some r∧0≤p.2.1∧p.2.1<l.length∧mkOf rules l p=(p.2.1.toNat,outP r l p.2.2,treesP r l p.2.2-1)∧rightB r l p.2.2=true∧(outP r l p.2.2).length≤131072
 | [],_,_,_,p,hp=>by cases hp
 | (n,x,bs)::P,free,size,h,p,hp=>by
  obtain ⟨h1,h2,h3,r,hr,h4,h5,h6,h7⟩:=stepErr_cons h
  rcases List.mem_cons.1 hp with rfl | hp
  ·exact ⟨r,hr,by show 0≤x;omega,h3,mkOf_of hr,h4,h5⟩
  ·exact step_each h7 p hp
theorem step_size {rules:List RuleM} {l:List Prt}:∀ {P:List Pk} {free:Nat} {size:Int},stepErr rules l P free size=0→size+laterS l (mksOf rules l P)≤131072
 | [],_,size,h=>by
  rw [stepErr] at h
  show size+laterS l []≤131072
  rw [laterS]
  split at h
  ·cases h
  ·omega
 | (n,x,bs)::P,free,size,h=>by
  obtain ⟨h1,h2,h3,r,hr,h4,h5,h6,h7⟩:=stepErr_cons h
  have ih:=step_size h7
  have e:mksOf rules l ((n,x,bs)::P)=(x.toNat,outP r l bs,treesP r l bs-1)::mksOf rules l P:=by
   unfold mksOf
   rw [List.map_cons,mkOf_of hr]
  rw [e,laterS]
  omega
theorem stepOut_len {rules:List RuleM} {l:List Prt} {P:List Pk} (hw:wellB l=true) (h:stepErr rules l P ((0:Nat):Int) l.length=0):(stepOut rules l P).length≤131072:=by
 have h1:=step_size h
 have h2:=outGo_len l (mksOf rules l P) (well_rows hw) (mksOf rules l P) (l.length+1) 0 (step_free h) (by omega) (Nat.zero_le _)
 rw [laterZ_sum] at h2
 unfold stepOut
 omega
theorem stepOut_small {rules:List RuleM} {l:List Prt} {P:List Pk} (hw:wellB l=true) (hl:SmallL l) (hr:∀ r∈rules,SmallR r) (h:stepErr rules l P ((0:Nat):Int) l.length=0):SmallL ((stepOut rules l P).map (·.1)):=by
 refine ⟨by rw [List.length_map];have:=stepOut_len hw h;omega,fun q hq=>?_⟩
 obtain ⟨y,hy,rfl⟩:=List.mem_map.1 hq
 unfold stepOut at hy
 rcases outGo_mem l _ (well_rows hw) _ _ _ y hy with ⟨j,hj,rfl⟩ | ⟨p,hp,hy⟩
 ·have e:ptAt l j=l[j]:=by unfold ptAt;simp [List.getD_eq_getElem?_getD,hj]
  have:=hl.2 _ (List.getElem_mem hj)
  unfold stayN
  simp only [e]
  exact this
 ·unfold mksOf at hp
  obtain ⟨x,hx,rfl⟩:=List.mem_map.1 hp
  obtain ⟨r,hr1,_,_,e,_,_⟩:=step_each h x hx
  rw [e] at hy
  have hrm:r∈rules:=by
   obtain ⟨i,hi⟩:=List.getElem?_eq_some_iff.1 hr1
   rw [← hi];exact List.getElem_mem _
  have hm:=(m_small (t:=r.by') (l:=l) (hs:=r.holes) (b:=bOf x.2.2) (hr r hrm).b hl (fuelZ r.by')).1 0
  have hy:y∈outP r l x.2.2:=hy
  unfold outP at hy
  split at hy
  ·exact hm y (List.mem_of_mem_drop hy)
  ·exact hm y hy
theorem outGo_stop (l:List Prt) (A:List Mk) (n:Nat):∀ P:List Mk,outGo l A (n+1) l.length P=[]
 | []=>by rw [outGo,if_neg (by omega)]
 | (x,m,d)::R=>by rw [outGo,if_neg (by omega)]
theorem Free.tail {l:List Prt} {i:Nat} {x:Nat} {m:List PN} {d:Int} {R:List Mk} (h:Free l i ((x,m,d)::R)) (hi:x≠i):Free l (i+1) ((x,m,d)::R):=by
 obtain ⟨h1,h2,h3⟩:=h
 exact ⟨by omega,h2,h3⟩
theorem moreAt_small {rules:List RuleM} {l:List Prt} {P:List Pk} (h:∀ p∈mksOf rules l P,-1≤p.2.2∧p.2.2≤131072) (hp:P.length≤1048576) (i:Nat):-137438953472≤moreAt l (mksOf rules l P) i∧moreAt l (mksOf rules l P) i≤137438953472:=by
 have:=moreAt_bd l i _ h
 have e:(mksOf rules l P).length=P.length:=by unfold mksOf;simp
 rw [e] at this
 omega
end Go.Proofs.YtmklemelgdilkaaGreatDoor
