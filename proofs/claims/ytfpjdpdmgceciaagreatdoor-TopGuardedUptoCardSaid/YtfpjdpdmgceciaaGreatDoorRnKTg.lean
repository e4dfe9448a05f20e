/- Layer 14: a part's kids; rows of parts. -/
import Derived.Test.YtfpjdpdmgceciaaGreatDoorCoreTg
import Derived.Test.YtfpjdpdmgceciaaGreatDoorRnWTg
import Derived.Test.YtfpjdpdmgceciaaGreatDoorAppEqTg
namespace Go.Proofs.YtfpjdpdmgceciaaGreatDoor
set_option maxRecDepth 100000
set_option maxHeartbeats 32000000
set_option linter.all false
attribute [local irreducible] Calls
attribute [local irreducible] wpStill
open Go.RowKit
def Chn(en:List Int):Nat->List Nat->Nat->Prop
 |k,[],stop=>k=stop
 |k,x::r,stop=>x=k/\∃k':Nat,en[k]?=some (k':Int)/\k<k'/\Chn en k' r stop
theorem Chn.le{en:List Int}:∀{r:List Nat}{k stop:Nat},Chn en k r stop->k<=stop
 |[],_,_,h=>by have:_=_:=h;omega
 |_::_,_,_,⟨_,k',_,h2,h3⟩=>by have:=Chn.le h3;omega
abbrev ksV(ks:List Nat):List Value:=ks.map λ(k:Nat)=>Value.int .i64 (k:Int)
theorem zVj:(Tryz.prog.info? 3).map (λi=>(i.zero,i.size,i.bytes))=some (some (.int .i64 0),1,8):=Oa
def KdRow(W:World)(v:Value)(ks:List Nat):Prop:=∃b cap cur,v=.slice (some ⟨b,0,none⟩) ks.length cap/\ks.length<=cap/\W.heap[b]?=some (.cells cur 3 (0,0))/\∀n (h:n<ks.length),cur[n]?=some (.int .i64 (ks[n]:Int))
def KdV(W:World)(v:Value)(ks:List Nat):Prop:=(ks=[]/\v=.slice none 0 0)\/KdRow W v ks
theorem KdV.of{W:World}{B:Nat}{v:Value}{ks:List Nat}(h:W.ownsRow B 3 1 v ks.length (ksV ks)):KdV W v ks:=by
 rcases h.2 with⟨rfl,h0⟩|⟨b,cap,cur,rfl,_,hb,h1,_,h2,h3⟩
 .exact Or.inl ⟨List.length_eq_zero_iff.1 h0,rfl⟩
 .refine Or.inr ⟨b,cap,cur,rfl,h1,hb,λn hn=>?_⟩;have h4:(cur.toList.take (ks.length*1))[n]?=(ksV ks)[n]?:=by rw[h3]
  rw[List.getElem?_take_of_lt Z]at h4
  simpa[hn]using h4
section
variable {E:WrE} {g:Nat} {out:List UInt8} {W W':World} {v:Value} {ks:List Nat}
theorem KdV.below(h:KdV W v ks)(hb:Below W.heap.size W W'):KdV W' v ks:=by
 rcases h with h|⟨b,cap,cur,h1,h2,h3,h4⟩
 .exact Or.inl h
 .exact Or.inr ⟨b,cap,cur,h1,h2,keeps hb h3,h4⟩
theorem KdV.keep(h:KdV W v ks)(hw:Wt E g out W)(hk:KpW g W W'):KdV W' v ks:=by
 rcases h with h|⟨b,cap,cur,h1,h2,h3,h4⟩
 .exact Or.inl h
 .refine Or.inr ⟨b,cap,cur,h1,h2,hk.1 _ _ h3 (λe=>?_) (λc fz e=>by cases e),h4⟩;obtain⟨_,_,_,hA⟩:=hw;have:=hA.hb;rw[<-Option.some.inj e,h3]at this;simp at this
theorem KdV.at'(h:KdV W v ks):∃a c,v=.slice a ks.length c/\ks.length<=c/\∀n (hn:n<ks.length),∃b,a=some ⟨b,0,none⟩/\W.cell? ⟨b,n,none⟩=some (.int .i64 (ks[n]:Int)):=by
 rcases h with⟨rfl,rfl⟩|⟨b,cap,cur,rfl,h2,h3,h4⟩
 .exact⟨none,0,rfl,Nat.zero_le _,λn hn=>absurd hn Ob⟩
 .exact⟨_,_,rfl,h2,λn hn=>⟨b,rfl,by simp[World.cell?,h3,h4 n hn]⟩⟩
@[irreducible] def KP(ks:List Nat)(w:World)(e:Ending)(W':World):Prop:=∃v,e=.returned v/\KdV W' v ks/\Below w.heap.size w W'
@[irreducible] def kdRel(E:WrE)(ks:List Nat)(stop:Nat)(w:World)(ov kv:Value)(W:World):Prop:=∃k:Nat,∃d r,kv=.int .i64 k/\(∃a n c,ov=.slice a n c)/\W.ownsRow w.heap.size 3 1 ov d.length (ksV d)/\Chn E.en k r stop/\d++r=ks/\Below w.heap.size w W
theorem yFs{i stop:Nat}(h:Wt E g out W)(hi:E.en[i]?=some (stop:Int))(hk:Chn E.en (i+1) ks stop)(hsz:E.en.length<=1000000/\stop<=1000000/\ks.length<=1000000):Calls Tryz.prog 83 #[wpV g,.int .i64 (i:Int)] W (KP ks W):=by
 have HQ:Hid (∀v W',W'.ownsRow W.heap.size 3 1 v ks.length (ksV ks)->Below W.heap.size W W'->KP ks W (.returned v) W'):=Hd λv W' a b=>by unfold KP;exact⟨v,rfl,KdV.of a,b⟩
 generalize KP ks W=Q at *;have hle:=hk.le;have HI:Hid (E.en[i]?=some (stop:Int)):=Hd hi;have hil:i<E.en.length:=by
  rcases Nat.lt_or_ge i E.en.length with c|c
  .exact c
  .rw[List.getElem?_eq_none c]at hi;cases hi
 have HW:=Hd h;have hw1:IntKind.i64.wrap ((i:Int)+1)=(i:Int)+1:=wI Z;have HR:Hid (kdRel E ks stop W (.slice none 0 0) (.int .i64 ((i:Int)+1)) W):=Hd (by
  unfold kdRel;exact⟨i+1,[],ks,congrArg (Value.int .i64) Z,⟨_,_,_,rfl⟩,World.ownsRow_nil _ _ _ _,hk,rfl,bR _ _⟩)
 clear h hi hk;go_enter Tryz.func83,Tryz.ntmps83;go_wp2_with fail;go_loopw [5,6] (λov kv wr=>kdRel E ks stop W ov kv wr) (λ_ kv _=>stop-(intOf kv).toNat)
 case atStart=>exact HR.out
 case round =>
  unfold kdRel at hrel;obtain⟨k,d,r,rfl,⟨va,vn,vc,rfl⟩,hown,hch,hdr,hb⟩:=hrel;have HO:=Hd hown;have HB:=Hd hb;have HWr:=Hd (HW.out.ext hb);have c4:=HWr.out.cells.2.2;have he:wr.heap[E.be]?=some E.eo:=by obtain⟨_,_,_,hA⟩:=HWr.out;exact hA.he
  have ci:wr.cell? ⟨E.be,i,none⟩=some (.int .i64 (stop:Int)):=by simp[World.cell?,he,HI.out]
  have hli:(i:Int)<E.en.length:=Z;have hi0:(0:Int)<=i:=Z;clear hown hb HR;cases r with
  |nil =>
   have hks:d=ks:=by simpa using hdr
   have hst:k=stop:=hch;subst hst;subst hks;have hltI:¬(k:Int)<(k:Int):=Z;clear he;go_wp2_with fail;exact HQ.out _ _ HO.out HB.out
  |cons x r =>
   obtain⟨rfl,k',hk1,hk2,hk3⟩:=hch;have hle':=hk3.le;have hltI:(x:Int)<(stop:Int):=Z;have ck:wr.cell? ⟨E.be,x,none⟩=some (.int .i64 (k':Int)):=by simp[World.cell?,he,hk1]
   have hxl:x<E.en.length:=by
    rcases Nat.lt_or_ge x E.en.length with c|c
    .exact c
    .rw[List.getElem?_eq_none c]at hk1;cases hk1
   have hlx:(x:Int)<E.en.length:=Z;have hx0:(0:Int)<=x:=Z;have hdl:d.length<=1000000:=by have:=congrArg List.length hdr;simp at this;omega
   obtain⟨v',w6,hr,hown,hgr,-⟩:=vV (P:=Tryz.prog) wr #[.int .i64 (x:Int)] 3 31 31 3 Tryz.underlying31 W.heap.size zVj rfl V _ _ _ HO.out 1 1 rfl (nR _) (by intro u hu;simp at hu;subst hu;rfl) Z Z HB.out.size;have HRUN:=Hd hr;have hb6:Below W.heap.size W w6:=xZ (HB.out.alloc HB.out.size (.cells #[.int .i64 (x:Int)] 3)) (by have:=HB.out.size;simp;omega) (HO.out.alloc _) hgr;obtain⟨a6,n6,c6,rfl⟩:=zI hown;have HWx:=Hd (HW.out.ext hb6);have d4:=HWx.out.cells.2.2;have he6:w6.heap[E.be]?=some E.eo:=by obtain⟨_,_,_,hA⟩:=HWx.out;exact hA.he
   have dk:w6.cell? ⟨E.be,x,none⟩=some (.int .i64 (k':Int)):=by simp[World.cell?,he6,hk1]
   have HR2:Hid (kdRel E ks stop W (.slice a6 n6 c6) (.int .i64 (k':Int)) w6):=Hd (by
    unfold kdRel;refine⟨k',d++[x],r,rfl,⟨_,_,_,rfl⟩,?_,hk3,by rw[<-hdr,List.append_assoc];rfl,hb6⟩;have:=hown
    simpa[ksV]using this)
   clear he he6 hk1 hk3 hdr hown hgr hr hb6;go_wp2_with (at_builtin;refine zE rfl _ _ _ _ HRUN.out rfl rfl rfl rfl ?_);exact⟨HR2.out,by simp only[intOf];omega⟩
def PO(E:WrE)(i:Nat)(t:List UInt8):Prop:=∀(g:Nat)(out:List UInt8)(W:World),Hid (Wt E g out W)->(out++t).length<=1000000000->Calls Tryz.prog 49 #[wpV g,.int .i64 (i:Int)] W (WP E g (out++t) W (.tuple #[]))
end
end Go.Proofs.YtfpjdpdmgceciaaGreatDoor
