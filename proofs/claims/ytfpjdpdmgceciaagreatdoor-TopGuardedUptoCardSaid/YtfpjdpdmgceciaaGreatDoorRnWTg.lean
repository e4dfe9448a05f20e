/- Layer 14: the writer of a term's text: its memory; texts are put. -/
import Derived.Test.YtfpjdpdmgceciaaGreatDoorCoreTg
import Derived.Test.YtfpjdpdmgceciaaGreatDoorTermTg
import Derived.Test.YtfpjdpdmgceciaaGreatDoorU8bTg
import Derived.Lib.AppendStr
import Derived.Test.YtfpjdpdmgceciaaGreatDoorShelfQTg
import Derived.Lib.OthersKept
import Derived.Lib.Builder
namespace Go.Proofs.YtfpjdpdmgceciaaGreatDoor
set_option maxRecDepth 100000
set_option maxHeartbeats 32000000
set_option linter.all false
attribute [local irreducible] Calls
attribute [local irreducible] wpStill
open Go.RowKit
structure WrE where
 l:List Prt
 en:List Int
 la:Option Addr
 lc:Nat
 be:Nat
 w0:World
abbrev WrE.eo(E:WrE):Obj:=.cells (E.en.map (Value.int .i64)).toArray 3 (0,0)
abbrev wrC(E:WrE)(av bv:Value):Obj:=.cells #[av,bv,.slice E.la E.l.length E.lc,.slice none 0 0,.slice (some ⟨E.be,0,none⟩) E.en.length E.en.length] 96 (0,0)
structure WtA(E:WrE)(g:Nat)(av bv:Value)(out:List UInt8)(W:World):Prop where
 b0:Below E.w0.heap.size E.w0 W
 gt:E.w0.heap.size<=g
 hb:W.heap[g]?=some (wrC E av bv)
 he:W.heap[E.be]?=some E.eo
 own:W.ownsRow (g+1) 5 1 bv out.length (Lib.byteCells out)
 nz:out=[]->bv=.slice none 0 0
abbrev wpV(g:Nat):Value:=.pointer (some ⟨g,0,none⟩)
def Wt(E:WrE)(g:Nat)(out:List UInt8)(W:World):Prop:=∃av bv,(av=.pointer none\/av=wpV g)/\WtA E g av bv out W
def KpW(g:Nat)(W W':World):Prop:=Lib.OthersKept 5 (some g) W W'/\Below g W W'
theorem KpW.trans{g:Nat}{W W' W'':World}(h:KpW g W W')(k:KpW g W' W''):KpW g W W'':=⟨h.1.trans k.1,h.2.trans k.2⟩
theorem KpW.new{g:Nat}{W:World}(hg:g<W.heap.size)(o:Obj):KpW g W (W.alloc o):=⟨(Lib.OthersKept.refl _ _ _).alloc o,(bR _ _).alloc Z o⟩
theorem KpW.refl(g:Nat)(W:World):KpW g W W:=⟨Lib.OthersKept.refl _ _ _,bR _ _⟩
section
variable {E:WrE} {g:Nat} {av bv:Value} {out:List UInt8} {W W':World}
theorem WtA.lt(h:WtA E g av bv out W):g<W.heap.size:=by
 rcases Nat.lt_or_ge g W.heap.size with c|c
 .exact c
 .have:=h.hb;rw[Array.getElem?_eq_none c]at this;cases this
theorem WtA.ne(h:WtA E g av bv out W):E.be≠g:=λe=>by
 have h1:=h.he;rw[e,h.hb]at h1;simp at h1
theorem WtA.ext(h:WtA E g av bv out W)(hb:Below W.heap.size W W'):WtA E g av bv out W' :=
 ⟨zD h.b0 hb,h.gt,(hb.block _ h.lt).trans h.hb,keeps hb h.he,yM h.own hb,h.nz⟩
theorem Wt.ext(h:Wt E g out W)(hb:Below W.heap.size W W'):Wt E g out W':=by
 obtain⟨av,bv,h1,h2⟩:=h;exact⟨av,bv,h1,h2.ext hb⟩
theorem Wt.lt(h:Wt E g out W):g<W.heap.size:=by obtain⟨_,_,_,h⟩:=h;exact h.lt
theorem Wt.b0(h:Wt E g out W):Below E.w0.heap.size E.w0 W:=by obtain⟨_,_,_,h⟩:=h;exact h.b0
theorem zAq(h:W.heap[g]?=some (wrC E av bv)):W.cell? ⟨g,0,none⟩=some av/\W.cell? ⟨g,1,none⟩=some bv/\W.cell? ⟨g,2,none⟩=some (.slice E.la E.l.length E.lc)/\W.cell? ⟨g,3,none⟩=some (.slice none 0 0)/\W.cell? ⟨g,4,none⟩=some (.slice (some ⟨E.be,0,none⟩) E.en.length E.en.length)/\∀i,W.frozen? ⟨g,i,none⟩=false:=by
 simp[World.cell?,World.frozen?,h]
theorem Wt.cells(h:Wt E g out W):W.cell? ⟨g,2,none⟩=some (.slice E.la E.l.length E.lc)/\W.cell? ⟨g,3,none⟩=some (.slice none 0 0)/\W.cell? ⟨g,4,none⟩=some (.slice (some ⟨E.be,0,none⟩) E.en.length E.en.length):=by
 obtain⟨_,_,_,h⟩:=h;obtain⟨_,_,a,b,c,_⟩:=zAq h.hb;exact⟨a,b,c⟩
theorem WtA.used(h:WtA E g av bv out W)(a:Value):WtA E g a bv out (W.setCell ⟨g,0,none⟩ a)/\KpW g W (W.setCell ⟨g,0,none⟩ a):=by
 refine⟨⟨h.b0.setCell (p:=⟨g,0,none⟩) h.gt _,h.gt,?_,(heap_setCell_other _ _ _ _ h.ne).trans h.he,?_,h.nz⟩,(Lib.OthersKept.refl _ _ _).setCell ⟨g,0,none⟩ rfl _,(bR _ _).setCell (p:=⟨g,0,none⟩) (nR _) _⟩
 .exact heap_setCell_same W g 0 _ _ _ h.hb
 .exact ownsRow_setCell_other h.own (λe=>absurd (h.own.lt _ e).1 (Nat.not_succ_le_self g)) _
end
theorem zXx{W:World}{B n:Nat}{e:TypeId}{v:Value}{xs:List Value}(h:W.ownsRow B e 1 v n xs){k:Nat}(hk:v.ownBlock=some k):∃c fz,W.heap[k]?=some (.cells c e fz):=by
 rcases h.2 with⟨rfl,_⟩|⟨b,cap,cur,rfl,_,hb,_⟩
 .cases hk
 .cases hk;exact⟨_,_,hb⟩
theorem yIz:(Tryz.prog.info? 94).map (·.size)=some 2:=Oa
theorem yFv:liesAt Tryz.prog Tryz.prog.depth 96 (5 / Tryz.prog.cellsOf 96) 0 94 1=true:=Oa
theorem yCt:(Tryz.prog.info? 5).map (λi=>(i.zero,i.size,i.bytes))=some (some (.int .u8 0),1,1):=Oa
section
variable {E:WrE} {g:Nat} {av bv:Value} {out:List UInt8} {W W':World}
@[irreducible] def WP(E:WrE)(g:Nat)(out:List UInt8)(w:World)(v:Value)(e:Ending)(W':World):Prop:=e=.returned v/\Wt E g out W'/\KpW g w W'
theorem WP.mk{w:World}{v:Value}(h:Wt E g out W')(k:KpW g w W'):WP E g out w v (.returned v) W':=by unfold WP;exact⟨rfl,h,k⟩
theorem WP.go{w:World}{v:Value}{e:Ending}(h:WP E g out w v e W'):e=.returned v/\Hid (Wt E g out W')/\Hid (KpW g w W'):=by unfold WP at h;exact⟨h.1,Hd h.2.1,Hd h.2.2⟩
theorem yCu(h:WtA E g av bv out W)(ha:av=.pointer none\/av=wpV g):Calls Tryz.prog 172 #[wpV g] W λe W'=>e=.returned (.tuple #[])/\WtA E g (wpV g) bv out W'/\KpW g W W':=by
 obtain⟨j,hj,hjs⟩:=Option.map_eq_some_iff.1 yIz;obtain⟨c0,-,-,-,-,z⟩:=zAq h.hb;have z0:=z 0;have hsh:W.shape? g=some (96,5):=by simp[World.shape?,h.hb]
 have HU:=Hd (h.used (wpV g));have HK:=Hd h;clear z h;rcases ha with rfl|rfl
 .go_enter Tryz.func172,Tryz.ntmps172;go_wp2_with fail;rw[Lib.run_to_unsafe W ⟨g,0,none⟩ Tryz.underlying91 Tryz.underlying196 hj (by rw[hjs];decide) hsh (Nat.zero_lt_succ 4)];simp only[Result.andThen];rw[Oper.upon_value];go_wp2_with fail;rw[run_callFunc_extern Tryz.func210 Oa Oa Oa (e:=Extern.AbiNoEscape.same) Oa];rw[Lib.run_noEscape];simp only[Result.andThen];rw[Oper.upon_value];go_wp2_with fail;rw[Lib.run_from_unsafe W ⟨g,0,none⟩ Tryz.underlying196 Tryz.underlying91 hj hsh yFv];simp only[Result.andThen];rw[Oper.upon_value];go_wp2_with fail;go_end0;exact⟨rfl,HU.out⟩
 .go_enter Tryz.func172,Tryz.ntmps172;go_wp2_with fail;rw[Lib.run_neq_ptr_same W _ Tryz.underlying91 hj];go_wp2_with fail;go_end0;exact⟨rfl,HK.out,KpW.refl _ _⟩
theorem yCv(h:Wt E g out W)(s:ByteArray)(hs:out.length+s.size<=140737488355328):Calls Tryz.prog 132 #[wpV g,.string s] W (WP E g (out++s.data.toList) W (.tuple #[.int .i64 s.size,.nilIface])):=by
 obtain⟨av,bv,ha,h⟩:=h;have CC:=Hd (yCu h ha);have HQ:Hid (∀W',Wt E g (out++s.data.toList) W'->KpW g W W'->WP E g (out++s.data.toList) W (.tuple #[.int .i64 s.size,.nilIface]) (.returned (.tuple #[.int .i64 s.size,.nilIface])) W'):=Hd λW' a b=>WP.mk a b;generalize WP E g (out++s.data.toList) W (.tuple #[.int .i64 s.size,.nilIface])=Q at *;clear h;go_enter Tryz.func132,Tryz.ntmps132;go_wp2_with fail;refine CC.out.mono ?_;rintro e w1 ⟨rfl,h1,hk1⟩;obtain⟨c0,c1,-,-,-,z⟩:=zAq h1.hb;have hg1:=h1.lt;obtain⟨i0,hi0,hz0,hz1,hz2⟩:=info_parts yCt;go_wp2_with (at_builtin;refine Lib.wpList_append_own_string _ rfl _ _ 92 9 rfl (g+1) 5 i0 Tryz.underlying92 Tryz.underlying9 hi0 hz0 hz1 hz2 bv out.length (Lib.byteCells out) rfl h1.own s rfl (by unfold maxLen;omega) hs hg1 ?_);intro v' w2 hown hgr hnz;have hne:bv.ownBlock≠some g:=λe=>by have:=(h1.own.lt _ e).1;omega
 have hb2:w2.heap[g]?=some (wrC E (wpV g) bv):=(hgr.block g hg1 (λe=>hne e.symm)).trans h1.hb;have hk2:KpW g w1 w2:=by
  refine⟨(Lib.OthersKept.refl _ _ _).grown hgr ?_,(bR _ _).grown hgr (Nat.le_of_lt hg1) (λk e=>by have:=(h1.own.lt _ e).1;omega)⟩;exactλk e=>zXx h1.own e
 have hb02:Below E.w0.heap.size E.w0 w2:=h1.b0.grown hgr (by have:=h1.gt;omega) (λk e=>by have:=(h1.own.lt _ e).1;have:=h1.gt;omega);have he2:w2.heap[E.be]?=some E.eo:=hk2.1 _ _ h1.he (λe=>h1.ne (Option.some.inj e)) (λc fz e=>by cases e);obtain⟨-,d1,-,-,-,z2⟩:=zAq hb2;have z1:=z2 1;obtain⟨va,vm,vc,rfl⟩:=zI hown;have HW:=Hd (show Wt E g (out++s.data.toList) (w2.setCell ⟨g,1,none⟩ (.slice va vm vc))from⟨_,_,Or.inr rfl,hb02.setCell (p:=⟨g,1,none⟩) h1.gt _,h1.gt,heap_setCell_same w2 g 1 _ _ _ hb2,(heap_setCell_other _ _ _ _ h1.ne).trans he2,by
  rw[show Lib.byteCells (out++s.data.toList)=Lib.byteCells out++Lib.strCells s by simp[Lib.byteCells,Lib.strCells],show(out++s.data.toList).length=out.length+s.size by rw[lA,<-size_data]];exact ownsRow_setCell_other hown (λe=>absurd (hown.lt _ e).1 (Nat.not_succ_le_self g)) _,λe=>by
  obtain⟨e1,e2⟩:=List.append_eq_nil_iff.1 e;exact hnz.2 ⟨h1.nz e1,ByteArray.ext (Array.toList_inj.1 (e2.trans rfl))⟩⟩)
 have HK:=Hd (hk1.trans (hk2.trans (show KpW g w2 (w2.setCell ⟨g,1,none⟩ (.slice va vm vc))from⟨(Lib.OthersKept.refl _ _ _).setCell ⟨g,1,none⟩ rfl _,(bR _ _).setCell (p:=⟨g,1,none⟩) (nR _) _⟩)));clear he2 hnz h1 hk1 hown hgr hb2 hk2 hb02 hne z z2 c0 CC;go_wp2_with fail;exact HQ.out _ HW.out HK.out
abbrev cat(ss:List ByteArray):List UInt8:=ss.flatMap λs=>s.data.toList
abbrev stO(ss:List ByteArray):Obj:=.cells (ss.map Value.string).toArray 9 (0,0)
theorem zEc{b:Nat}{ss:List ByteArray}(h:W.heap[b]?=some (stO ss))(hg:W.heap[g]?=some (wrC E av bv))(k:KpW g W W'):W'.heap[b]?=some (stO ss) :=
 k.1 b _ h (λe=>by cases e;rw[hg]at h;simp at h) (λc fz e=>by cases e)
@[irreducible] def puRel(E:WrE)(g b:Nat)(ss:List ByteArray)(fin:List UInt8)(w:World)(iv:Value)(W:World):Prop:=∃k:Nat,∃o,iv=.int .i64 k/\k<=ss.length/\Wt E g o W/\KpW g w W/\o++cat (ss.drop k)=fin/\W.heap[b]?=some (stO ss)
theorem yIa{b:Nat}{ss:List ByteArray}(h:Wt E g out W)(hb:W.heap[b]?=some (stO ss))(hn:ss.length<=1000)(hs:(out++cat ss).length<=1000000000):Calls Tryz.prog 82 #[wpV g,.slice (some ⟨b,0,none⟩) ss.length ss.length] W (WP E g (out++cat ss) W (.tuple #[])):=by
 have HQ:Hid (∀W',Wt E g (out++cat ss) W'->KpW g W W'->WP E g (out++cat ss) W (.tuple #[]) (.returned (.tuple #[])) W'):=Hd λW' a b=>WP.mk a b;generalize WP E g (out++cat ss) W (.tuple #[])=Q at *;generalize hfin:out++cat ss=fin at *;have HR:Hid (puRel E g b ss fin W (.int .i64 0) W):=Hd (by unfold puRel;exact⟨0,out,rfl,Nat.zero_le _,h,KpW.refl _ _,hfin,hb⟩);clear h hb hfin;go_enter Tryz.func82,Tryz.ntmps82;go_wp2_with fail;go_loopw [8] (λiv wr=>puRel E g b ss fin W iv wr) (λiv _=>ss.length-(intOf iv).toNat)
 case atStart=>exact HR.out
 case round =>
  unfold puRel at hrel;obtain⟨k,o,rfl,hk,hw,hkp,hf,hbk⟩:=hrel;have HW:=Hd hw;have HK:=Hd hkp;have HF:=Hd hf;have HB:=Hd hbk;clear hw hkp hf hbk HR;by_cases hlt:k<ss.length
  .have hltI:(k:Int)<ss.length:=Z;have h0:(0:Int)<=k:=Z;have hc:wr.cell? ⟨b,k,none⟩=some (.string ss[k]):=by simp[World.cell?,HB.out,hlt]
   have hwk:IntKind.i64.wrap ((k:Int)+1)=(k:Int)+1:=wI Z;have hd:ss.drop k=ss[k]::ss.drop (k+1):=by rw[List.drop_eq_getElem_cons hlt]
   have hf2:(o++ss[k].data.toList)++cat (ss.drop (k+1))=fin:=by rw[<-HF.out,hd,List.append_assoc];rfl
   have hlen:o.length+ss[k].size<=1000000000:=by
    have:=congrArg List.length hf2;rw[lA,lA,<-size_data]at this;omega
   have HF2:=Hd hf2;generalize ss[k]=x at *;clear hd hf2;have C:=Hd (yCv HW.out x Z);go_wp2_with fail;refine C.out.mono ?_;intro e w2 h2;obtain⟨rfl,HW2,HK2⟩:=h2.go;have HR2:Hid (puRel E g b ss fin W (.int .i64 ((k:Int)+1)) w2):=Hd (by
    unfold puRel;obtain⟨_,_,_,hA⟩:=HW.out;exact⟨k+1,_,congrArg (Value.int .i64) Z,hlt,HW2.out,HK.out.trans HK2.out,HF2.out,zEc HB.out hA.hb HK2.out⟩)
   clear h2 C;go_wp2_with fail;exact⟨HR2.out,by simp only[intOf];omega⟩
  .have hltI:¬(k:Int)<ss.length:=Z;have hz:ss.drop k=[]:=List.drop_eq_nil_of_le Z;go_wp2_with fail;refine bodyPost_end (results_none rfl _ _ _) rfl (HQ.out _ ?_ HK.out);have:=HF.out;rw[hz]at this;simp only[List.flatMap_nil,List.append_nil]at this;rw[<-this];exact HW.out
end
end Go.Proofs.YtfpjdpdmgceciaaGreatDoor
