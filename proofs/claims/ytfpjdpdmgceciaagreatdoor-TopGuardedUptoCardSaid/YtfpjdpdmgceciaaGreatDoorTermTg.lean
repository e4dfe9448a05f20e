/- Layer 11: the program's functions, walked: ends, well, Well. -/
import Derived.Test.YtfpjdpdmgceciaaGreatDoorCoreTg
import Derived.Deep.QuietTactic
import Derived.BigQuiet
import Derived.Deep.Cut
namespace Go.Proofs.YtfpjdpdmgceciaaGreatDoor
set_option maxRecDepth 100000
set_option maxHeartbeats 32000000
set_option linter.all false
open Go.RowKit
theorem gI:(Tryz.prog.info? 3).map (λi=>(i.zero,i.size,i.bytes))=some (some (.int .i64 0),1,8):=Oa
theorem zDe(n:Nat)(hn:n<=1000000000)(w:World) :
  (Instr.makeSlice 31 (.int .i64 (n:Int)) (.int .i64 (n:Int))).run Tryz.prog w=.ok (.slice (some ⟨w.heap.size,0,none⟩) n n) (w.alloc (.cells ((List.replicate n (0:Int)).map (Value.int .i64)).toArray 3)):=by
 obtain⟨i,hi,hz,hsz,hb⟩:=info_parts gI;have hr:=run_make (P:=Tryz.prog) w 31 3 i (.int .i64 0) Tryz.underlying31 hi hz .i64 .i64 (n:Int) (n:Int) Z (Int.le_refl _) (by rw[hb];omega) Z;rw[hsz]at hr;have e:madeCells (Value.int .i64 0).cells ((n:Int).toNat*1)=((List.replicate n (0:Int)).map (Value.int .i64)).toArray:=by
  apply Array.ext';rw[Int.toNat_natCast,Nat.mul_one];show(madeCells #[.int .i64 0] n).toList=_;rw[toList_madeCells_one,List.map_replicate]
 rw[e]at hr
 simpa using hr
theorem fY{w:World}{a:Addr}{b i:Nat}(h:b≠a.block)(u:Value):(w.setCell a u).cell? ⟨b,i,none⟩=w.cell? ⟨b,i,none⟩:=by
 simp only[World.cell?,heap_setCell_other _ _ _ _ h]
theorem zEj{w:World}{B:Nat}{a:Option Addr}{e:TypeId}{size n cap:Nat}{xs:List Value}(h:w.ownsRow B e size (.slice a n cap) n xs){k:Nat}(hk:k<=n):w.ownsRow B e size (.slice a k cap) k (xs.take (k*size)):=by
 obtain⟨h1,h2⟩:=h;have hm:k*size<=n*size:=Nat.mul_le_mul_right _ hk;refine⟨by rw[List.length_take];omega,?_⟩;rcases h2 with⟨hv,hn⟩|⟨g,cap',cur,hv,hg,hh,hnc,hcm,hcs,htk⟩
 .subst hn;obtain rfl:k=0:=Z;exact Or.inl ⟨hv,rfl⟩
 .simp only[Value.slice.injEq,true_and]at hv;obtain⟨rfl,rfl⟩:=hv;refine Or.inr ⟨g,cap,cur,rfl,hg,hh,Z,hcm,hcs,?_⟩;rw[<-htk,List.take_take,Nat.min_eq_left hm]
theorem zEk{w:World}{B:Nat}{a:Option Addr}{e:TypeId}{size n m cap:Nat}{xs:List Value}(h:w.ownsRow B e size (.slice a m cap) n xs)(hn:0<n):∃g,a=some ⟨g,0,none⟩:=by
 rcases h.2 with⟨_,h0⟩|⟨g,cap',cur,hv,_⟩
 .omega
 .simp only[Value.slice.injEq]at hv;exact⟨g,hv.1⟩
def partV(p:Prt):List Value:=[.int .u8 (p.1:Int),.int .i64 p.2.1,.string p.2.2]
def zP(l:List Prt):List Value:=l.flatMap partV
theorem yV(l:List Prt):(zP l).length=l.length*3:=by
 induction l with
 |nil=>rfl
 |cons p l ih=>show(partV p++zP l).length=_;rw[lA,ih,lC];show 3+_=_;omega
theorem xR(a b:List Prt):zP (a++b)=zP a++zP b:=by unfold zP;rw[List.flatMap_append]
theorem zFf:∀(l:List Prt)(i:Nat)(hi:i<l.length),(zP l)[i*3]?=some (.int .u8 (l[i].1:Int))/\(zP l)[i*3+1]?=some (.int .i64 l[i].2.1)/\(zP l)[i*3+2]?=some (.string l[i].2.2)
 |p::l,0,_=>⟨rfl,rfl,rfl⟩
 |p::l,i+1,hi=>by
  have:=zFf l i (by simpa using hi);have e:zP (p::l)=partV p++zP l:=rfl;rw[e];simp only[List.getElem_cons_succ];rw[List.getElem?_append_right (by simp[partV];omega),List.getElem?_append_right (by simp[partV];omega),List.getElem?_append_right (by simp[partV];omega)];have e1:(i+1)*3-(partV p).length=i*3:=by simp[partV];omega
  have e2:(i+1)*3+1-(partV p).length=i*3+1:=by simp[partV];omega
  have e3:(i+1)*3+2-(partV p).length=i*3+2:=by simp[partV];omega
  rw[e1,e2,e3];exact this
def zG(w:World)(v:Value)(l:List Prt):Prop:=Row w v l.length 3 (zP l)
theorem zG.below{w w':World}{v:Value}{l:List Prt}(h:zG w v l)(hb:Below w.heap.size w w'):zG w' v l:=Row.below h hb
theorem zG.slice{w:World}{v:Value}{l:List Prt}(h:zG w v l):∃a cap,v=.slice a l.length cap/\l.length<=cap:=by
 obtain⟨_,a,cap,hv,hc,_⟩:=h;exact⟨a,cap,hv,hc⟩
theorem zG.at{w w':World}{a:Option Addr}{n cap:Nat}{l:List Prt}(h:zG w (.slice a n cap) l)(hb:Below w.heap.size w w')(hp:0<l.length) :
  ∃b off,a=some ⟨b,off,Option.none⟩/\n=l.length/\l.length<=cap/\b<w.heap.size/\∀i (hi:i<l.length),w'.cell? ⟨b,off+i*3,Option.none⟩=some (.int .u8 (l[i].1:Int))/\w'.cell? ⟨b,off+i*3+1,Option.none⟩=some (.int .i64 l[i].2.1)/\w'.cell? ⟨b,off+i*3+2,Option.none⟩=some (.string l[i].2.2):=by
 obtain⟨h1,a',cap',hv,hc,_,h2⟩:=h;simp only[Value.slice.injEq]at hv;obtain⟨rfl,rfl,rfl⟩:=hv;obtain⟨b,off,ha,hbl,hcell⟩:=h2 hp;refine⟨b,off,ha,rfl,hc,hbl,λi hi=>?_⟩;obtain⟨g1,g2,g3⟩:=zFf l i hi;refine⟨?_,?_,?_⟩
 .rw[hb.cell (p:=⟨b,off+i*3,Option.none⟩) hbl,hcell _ Z];exact g1
 .rw[hb.cell (p:=⟨b,off+i*3+1,Option.none⟩) hbl,Nat.add_assoc,hcell _ Z];exact g2
 .rw[hb.cell (p:=⟨b,off+i*3+2,Option.none⟩) hbl,Nat.add_assoc,hcell _ Z];exact g3
def endsL(l:List Prt):List Int:=(List.range l.length).map λi=>(zB l i:Int)
theorem zYj{l:List Prt}{j:Nat}(hj:j<l.length):(endsL l)[j]?=some (zB l j:Int):=by simp[endsL,hj]
theorem zEl(l:List Prt):(endsL l).length=l.length:=by simp[endsL]
@[irreducible] def endsPost(l:List Prt)(w0:World)(e:Ending)(w':World):Prop :=
 match zC l with
 |some ts=>∃v,e=.returned (.tuple #[v,.int .i64 (ts.length:Int),.bool true])/\Below w0.heap.size w0 w'/\zK w' v .i64 (endsL l)
 |none=>e=.returned (.tuple #[.slice none 0 0,.int .i64 0,.bool false])/\Below w0.heap.size w0 w'
def endsRel(l:List Prt)(w:World)(op j:Value)(wr:World):Prop :=
 ∃(k:Nat) (ts:List Nat) (E:List Int),j=.int .i64 ((k:Int)-1)/\k<=l.length/\zC (l.drop k)=some ts/\E.length=l.length/\(∀i,k<=i->i<l.length->E.getD i 0=(zB l i:Int))/\
  wr.heap[w.heap.size]?=some (.cells (E.map (Value.int .i64)).toArray 3 (0,0))/\wr.ownsRow (w.heap.size+1) 3 1 op ts.length ((starts k ts).reverse.map λ(x:Nat)=>Value.int .i64 (x:Int))/\Below w.heap.size w wr
theorem zJl{l:List Prt}{w Wx w':World}{B i q:Nat}{ts:List Nat}{E:List Int}{oa:Option Addr}{oc:Nat}{v':Value}(hB:w.heap.size=B)(hil:i<l.length)(hrow:zC (l.drop i)=some ((1+(ts.take q).sum)::ts.drop q))(hst:i::(starts (i+1) ts).drop q=starts i ((1+(ts.take q).sum)::ts.drop q))(hq:q<=ts.length)(hEl:E.length=l.length)(hE:∀j,i+1<=j->j<l.length->E.getD j 0=(zB l j:Int))(hx1:Wx.heap[B]?=some (.cells ((E.set i (zB l i:Int)).map (Value.int .i64)).toArray 3 (0,0)))(hx3:Below B w Wx)(n:Nat)(hn:n=ts.length-q)(xs ys:List Value)(hxs:xs=((starts (i+1) ts).reverse.map λ(x:Nat)=>Value.int .i64 (x:Int)).take (n*1))(hx2:Wx.ownsRow (B+1) 3 1 (.slice oa n oc) n xs)(hown:w'.ownsRow (B+1) 3 1 v' (n+1) ys)(hys:ys=xs++[.int .i64 (i:Int)])(hg:(Wx.alloc (.cells #[.int .i64 (i:Int)] 3)).grownBy w' (Value.slice oa n oc).ownBlock):endsRel l w v' (.int .i64 ((i:Int)-1)) w':=by
 have hlt:=lt_of_block hx1;subst hys hxs hn;refine⟨i,_,E.set i (zB l i:Int),rfl,Z,hrow,by rw[List.length_set];exact hEl,λj h1 h2=>?_,?_,?_,?_⟩
 .rw[gD,List.getElem?_set];by_cases e:i=j
  .subst e;rw[iP rfl,iP Z];rfl
  .rw[iN e,<-gD];exact hE j Z h2
 .rw[hB,hg.block B (by simp;omega) (λe=>by have:=hx2.lt B e.symm;omega),Below.heap_alloc _ _ _ hlt];exact hx1
 .rw[hB];have e1:(starts i ((1+(ts.take q).sum)::ts.drop q)).reverse.map (λ(x:Nat)=>Value.int .i64 (x:Int))=((starts (i+1) ts).reverse.map λ(x:Nat)=>Value.int .i64 (x:Int)).take ((ts.length-q)*1)++[.int .i64 (i:Int)]:=by
   rw[<-hst,List.reverse_cons,List.map_append,Nat.mul_one,<-List.map_take,List.take_reverse,vL,show ts.length-(ts.length-q)=q by omega];rfl
  rw[e1,show((1+(ts.take q).sum)::ts.drop q).length=ts.length-q+1 by rw[lC,List.length_drop]];exact hown
 .rw[hB];exact xM hx3 Z (jZ hx2 (Nat.le_succ B)) hg
theorem zYk{l:List Prt}{i q:Nat}{ts:List Nat}(hts:zC (l.drop (i+1))=some ts)(hq:0<q)(hql:q<=ts.length)(hEi:zB l i=i+(1+(ts.take q).sum)) :
  ∃s,i<s/\s<l.length/\zB l s=zB l i/\((starts (i+1) ts).reverse.map λ(x:Nat)=>Value.int .i64 (x:Int))[ts.length-q]?=some (.int .i64 (s:Int)):=by
 obtain⟨r,rfl⟩:∃r,q=r+1:=⟨q-1,Z⟩;have hk:=zAs r hts Z;rw[List.drop_drop]at hk;have hd:ts.drop r=ts[r]::ts.drop (r+1):=List.drop_eq_getElem_cons Z;have hsum:(ts.take (r+1)).sum=(ts.take r).sum+ts[r]:=by rw[List.take_succ_eq_append_getElem Z,List.sum_append];simp
 have hpos:=(yL hts).2.2 ts[r] (gM Z);have hh:=yY (hk.trans (congrArg some hd));refine⟨i+1+(ts.take r).sum,Z,?_,?_,?_⟩
 .have h1:=(yL hk).1;rw[hd,List.sum_cons,List.length_drop]at h1;omega
 .rw[hEi,hsum];unfold zB;rw[hh];omega
 .have hz:=vL ts (i+1);rw[List.getElem?_map,List.getElem?_reverse Z,hz,show ts.length-1-(ts.length-(r+1))=r by omega];have:=zAt ts (i+1) r Z;rw[gD,gE Z]at this;rw[gE Z];simp only[Option.getD_some]at this;rw[this];rfl
theorem zYl(l:List Prt)(hl:l.length<=1000000000)(v:Value)(w:World)(hr:zG w v l) :
  Calls Tryz.prog 74 #[v] w (endsPost l w):=by
 have HQ:Hid (∀v' ts w',zC l=some ts->Below w.heap.size w w'->zK w' v' .i64 (endsL l)->endsPost l w (.returned (.tuple #[v',.int .i64 (ts.length:Int),.bool true])) w'):=Hd λv' ts w' h1 h2 h3=>by
  unfold endsPost;rw[h1];exact⟨v',rfl,h2,h3⟩
 have HN:Hid (∀w',zC l=none->Below w.heap.size w w'->endsPost l w (.returned (.tuple #[.slice none 0 0,.int .i64 0,.bool false])) w'):=Hd λw' h1 h2=>by
  unfold endsPost;rw[h1];exact⟨rfl,h2⟩
 generalize endsPost l w=Q at *;have HR:=Hd hr;obtain⟨va,vcap,rfl,hvc⟩:=hr.slice;clear hr;have hmk:=zDe l.length hl;have hwl:IntKind.i64.wrap ((l.length:Int)-1)=(l.length:Int)-1:=wI Z;go_enter Tryz.func74,Tryz.ntmps74;go_wp2_with fail;have HK0:Hid ((w.alloc (.cells (Array.replicate l.length (Value.int .i64 0)) 3)).heap[w.heap.size]?=some (.cells ((List.replicate l.length (0:Int)).map (Value.int .i64)).toArray 3 (0,0))):=Hd (by
  have:=heap_alloc_new w (.cells (Array.replicate l.length (Value.int .i64 0)) 3);rw[this,List.map_replicate,List.toArray_replicate])
 have HB0:Hid (Below w.heap.size w (w.alloc (.cells (Array.replicate l.length (Value.int .i64 0)) 3))):=Hd ((bR _ _).alloc (nR _) _);generalize w.alloc (.cells (Array.replicate l.length (Value.int .i64 0)) 3)=W0 at *;generalize hBB:w.heap.size=B at *;have HBB:=Hd hBB;clear hBB;go_loopw [6,7] (λop j wr=>endsRel l w op j wr) (λ_ j _=>(intOf j+1).toNat)
 case atStart =>
  refine⟨l.length,[],List.replicate l.length 0,rfl,nR _,by rw[List.drop_length];rfl,Ob,λi h1 h2=>Z,?_,?_,?_⟩
  .rw[HBB.out];exact HK0.out
  .exact World.ownsRow_nil _ _ _ _
  .rw[HBB.out];exact HB0.out
 case round =>
  obtain⟨k,ts,E,rfl,hk,hts,hEl,hEq,hh,ho,hb⟩:=hrel;rw[HBB.out]at hh ho hb;have HB:=Hd hb;have HH:=Hd hh;have HO:=Hd ho;have HTS:=Hd hts;have HEQ:=Hd hEq;have HEL:=Hd hEl;obtain⟨_,oa,oc,rfl,hoc,_,_⟩:=Row.of_owns ho;have htl:ts.length<=l.length:=by have:=(yL hts).2.1;rw[List.length_drop]at this;omega
  have hBlt:B<wr.heap.size:=lt_of_block hh;clear hb hh ho hEq hEl hts;by_cases hk0:0<k
  .obtain⟨i,rfl⟩:∃i,k=i+1:=⟨k-1,Z⟩;rw[show(((i+1:Nat):Int)-1)=(i:Int)by omega];have hil:i<l.length:=hk;obtain⟨b,off,rfl,_,_,hbl,hcell⟩:=HR.out.at (HBB.out▸HB.out) (show 0<l.length by omega);have c0:=(hcell i hil).2.1;have hdr:l.drop i=l[i]::l.drop (i+1):=List.drop_eq_getElem_cons hil;have HDR:=Hd hdr;have hi0:(0:Int)<=i:=Z;have hil':(i:Int)<l.length:=Z;have hic:(i:Int)<vcap:=Z;have hge:¬(i:Int)<0:=Z;clear hcell hdr hk0;have hbad:¬(0<=(l[i]).2.1/\(l[i]).2.1<=(ts.length:Int))->zC l=none:=λhc=>by
    cases hr:zC l with
    |none=>rfl
    |some us =>
     obtain⟨vs,hvs⟩:=kD hr i;rw[HDR.out,zLt HTS.out hc]at hvs;cases hvs
   have hgood:0<=(l[i]).2.1/\(l[i]).2.1<=(ts.length:Int)->zC (l.drop i)=some ((1+(ts.take (l[i]).2.1.toNat).sum)::ts.drop (l[i]).2.1.toNat):=λhc=>by
    rw[HDR.out];exact yC HTS.out hc.1 hc.2
   have HBAD:=Hd hbad;have HGOOD:=Hd hgood;have HST:=Hd (λ(h:(l[i]).2.1<=(ts.length:Int))=>zRf (p:=l[i]) i h);clear hbad hgood;generalize(l[i]).2.1=x at *;by_cases hx0:x<0
   .go_wp2_with fail;exact HN.out _ (HBAD.out (λh=>Z)) (HBB.out▸HB.out)
   .by_cases hx1:(ts.length:Int)<x
    .go_wp2_with fail;exact HN.out _ (HBAD.out (λh=>Z)) (HBB.out▸HB.out)
    .have hg:=HGOOD.out ⟨Z,Z⟩;have hst:=HST.out Z;obtain⟨q,rfl⟩:∃q:Nat,x=q:=⟨x.toNat,Z⟩;rw[Int.toNat_natCast]at hg hst;have HG:=Hd hg;have HS:=Hd hst;have hEi:zB l i=i+(1+(ts.take q).sum):=by unfold zB;rw[yY hg]
     have HEI:=Hd hEi;clear hg hst hEi HBAD HGOOD HST;have c1:wr.cell? ⟨B,i,none⟩=some (.int .i64 (E.getD i 0)):=by
      simp[World.cell?,HH.out,HEL.out,hil,gD]
     have z1:wr.frozen? ⟨B,i,none⟩=false:=by simp[World.frozen?,HH.out]
     have hwi:IntKind.i64.wrap ((i:Int)+1)=(i:Int)+1:=wI Z;have hwm:IntKind.i64.wrap ((i:Int)-1)=(i:Int)-1:=wI Z;have hwq:IntKind.i64.wrap ((ts.length:Int)-(q:Int))=(ts.length:Int)-(q:Int):=wI Z;have hq0:(0:Int)<=(ts.length:Int)-(q:Int):=Z;have hqc:(ts.length:Int)-(q:Int)<=oc:=Z;have hqn:((ts.length:Int)-(q:Int)).toNat=ts.length-q:=Z;have hql:q<=ts.length:=Z;have HQL:=Hd hql;have hs0:∀W' u,W'=wr.setCell ⟨B,i,none⟩ u->W'.ownsRow (B+1) 3 1 (.slice oa ts.length oc) ts.length ((starts (i+1) ts).reverse.map λ(x:Nat)=>Value.int .i64 (x:Int))/\Below B w W':=λW' u e=>by
      subst e;exact⟨ownsRow_setCell_below HO.out (Nat.lt_succ_self B) u,HB.out.setCell (p:=⟨B,i,none⟩) (nR _) u⟩
     have hh1:∀x:Int,(wr.setCell ⟨B,i,none⟩ (.int .i64 x)).heap[B]?=some (.cells ((E.set i x).map (Value.int .i64)).toArray 3 (0,0)):=λx=>by
      rw[heap_setCell_same _ _ _ _ _ _ HH.out,List.setIfInBounds_toArray,<-List.map_set]
     by_cases hq:0<q
     .obtain⟨s,hs1,hs2,hs3,hs4⟩:=zYk HTS.out hq hql HEI.out;obtain⟨g,rfl⟩:=zEk HO.out Z;obtain⟨g1,g2⟩:=hs0 _ (.int .i64 ((i:Int)+1)) rfl;have c2:(wr.setCell ⟨B,i,none⟩ (.int .i64 ((i:Int)+1))).cell? ⟨g,ts.length-q,none⟩=some (.int .i64 (s:Int)):=by
       rw[g1.cellAt _ Z];exact hs4
      have c3:(wr.setCell ⟨B,i,none⟩ (.int .i64 ((i:Int)+1))).cell? ⟨B,s,none⟩=some (.int .i64 (zB l i:Int)):=by
       have:=HEQ.out s hs1 hs2;rw[hs3]at this;rw[gD]at this;simp only[World.cell?,hh1];rw[<-this];simp[HEL.out,hs2,show ¬i=s by omega]
      have c4:(wr.setCell ⟨B,i,none⟩ (.int .i64 ((i:Int)+1))).cell? ⟨B,i,none⟩=some (.int .i64 ((i:Int)+1)):=by
       simp only[World.cell?,hh1];simp[HEL.out,hil]
      have z4:(wr.setCell ⟨B,i,none⟩ (.int .i64 ((i:Int)+1))).frozen? ⟨B,i,none⟩=false:=by simp[World.frozen?,hh1]
      have HX1:Hid (((wr.setCell ⟨B,i,none⟩ (.int .i64 ((i:Int)+1))).setCell ⟨B,i,none⟩ (.int .i64 (zB l i:Int))).heap[B]?=some (.cells ((E.set i (zB l i:Int)).map (Value.int .i64)).toArray 3 (0,0))):=Hd (by
       rw[heap_setCell_same _ _ _ _ _ _ (hh1 _),List.setIfInBounds_toArray,<-List.map_set,List.set_set])
      have HX2:=Hd (zEj (ownsRow_setCell_below g1 (a:=⟨B,i,none⟩) (Nat.lt_succ_self B) (.int .i64 (zB l i:Int))) (k:=ts.length-q) Z);have HXB:=Hd (g2.setCell (p:=⟨B,i,none⟩) (nR _) (.int .i64 (zB l i:Int)));have hsz:B+1<=((wr.setCell ⟨B,i,none⟩ (.int .i64 ((i:Int)+1))).setCell ⟨B,i,none⟩ (.int .i64 (zB l i:Int))).heap.size:=by simp;omega
      have hq0i:(0:Int)<(q:Int):=Z;have hq1i:(ts.length:Int)-(q:Int)<ts.length:=Z;have hs0i:(0:Int)<=(s:Int):=Z;have hs2i:(s:Int)<l.length:=Z;clear hs4 hs3 g1 g2 hs0 hh1;have HEJ:Hid (∃z,z=zB l i):=Hd ⟨_,rfl⟩;generalize hee:zB l i=ee at *;have HEE:=Hd hee;clear hee;go_upto_region 12 with(fail);clear c2 c3 c4 z4 c1 z1 c0;generalize(wr.setCell ⟨B,i,none⟩ (.int .i64 ((i:Int)+1))).setCell ⟨B,i,none⟩ (.int .i64 (ee:Int))=Wx at *;go_wp2_with (at_builtin;refine zQ Wx #[.int .i64 (i:Int)] _ rfl _ _ 31 3 rfl Tryz.underlying31 (B+1) gI rfl V _ _ _ rfl HX2.out 1 1 rfl rfl V (by intro u hu;simp at hu;subst hu;rfl) Z Z hsz ?_);intro v' w' hown hgr _;obtain⟨_,va',vc',rfl,_,_,_⟩:=Row.of_owns hown;have HX1':Hid (Wx.heap[B]?=some (.cells ((E.set i (zB l i:Int)).map (Value.int .i64)).toArray 3 (0,0))):=Hd (by rw[HEE.out];exact HX1.out);have HR1:=Hd (zJl HBB.out hil HG.out HS.out HQL.out HEL.out HEQ.out HX1'.out HXB.out (ts.length-q) rfl _ _ rfl HX2.out hown Ob hgr);clear hown hgr;go_wp2_with fail;refine⟨HR1.out,?_⟩;simp only[intOf];omega
     .obtain rfl:q=0:=Z;obtain⟨g1,g2⟩:=hs0 _ (.int .i64 ((i:Int)+1)) rfl;have hX2:=zEj g1 (k:=ts.length) (nR _);have HX2:=Hd hX2;have HXB:=Hd g2;have HX1:Hid ((wr.setCell ⟨B,i,none⟩ (.int .i64 ((i:Int)+1))).heap[B]?=some (.cells ((E.set i (zB l i:Int)).map (Value.int .i64)).toArray 3 (0,0))):=Hd (by
       rw[HEI.out,List.take_zero,List.sum_nil];exact hh1 _)
      have hsz:B+1<=(wr.setCell ⟨B,i,none⟩ (.int .i64 ((i:Int)+1))).heap.size:=by simp;omega
      clear hX2 g1 g2 hs0 hh1;go_upto_region 12 with(fail);generalize wr.setCell ⟨B,i,none⟩ (.int .i64 ((i:Int)+1))=Wx at *;go_wp2_with (at_builtin;refine zQ Wx #[.int .i64 (i:Int)] _ rfl _ _ 31 3 rfl Tryz.underlying31 (B+1) gI rfl V _ _ _ rfl HX2.out 1 1 rfl rfl V (by intro u hu;simp at hu;subst hu;rfl) Z Z hsz ?_);intro v' w' hown hgr _;obtain⟨_,va',vc',rfl,_,_,_⟩:=Row.of_owns hown;have HR1:=Hd (zJl HBB.out hil HG.out HS.out (Nat.zero_le _) HEL.out HEQ.out HX1.out HXB.out ts.length (Nat.sub_zero _).symm _ _ rfl HX2.out hown Ob hgr);clear hown hgr;go_wp2_with fail;refine⟨HR1.out,?_⟩;simp only[intOf];omega
  .obtain rfl:k=0:=Z;rw[show(((0:Nat):Int)-1)=-1 by rfl];go_wp2_with fail;have hEL:E=endsL l:=by
    apply List.ext_getElem
    .rw[HEL.out];simp[endsL]
    .intro i h1 h2;have:=HEQ.out i (Nat.zero_le _) (by rw[<-HEL.out];exact h1);rw[gD,gE h1]at this;simp only[Option.getD_some]at this;rw[this];simp[endsL]
   show Q (.returned (.tuple #[.slice (some ⟨B,0,none⟩) l.length l.length,.int .i64 (ts.length:Int),.bool true])) wr;refine HQ.out _ ts _ (by have:=HTS.out;rwa [List.drop_zero]at this) (HBB.out▸HB.out) ?_;have hh:=HH.out;rw[hEL]at hh;have hz:(endsL l).length=l.length:=by simp[endsL]
   refine⟨Ob,_,_,by rw[hz],by rw[hz];exact nR _,Ob,λhn=>⟨B,0,rfl,hBlt,λi hi=>?_⟩⟩;rw[Nat.zero_add];simp only[World.cell?,hh];simp
@[irreducible] def wellPost(l:List Prt)(w0:World)(e:Ending)(w':World):Prop :=
 ∃v,e=.returned (.tuple #[v,.bool (zT l)])/\Below w0.heap.size w0 w'/\(zT l=true->zK w' v .i64 (endsL l))/\∃a n c,v=.slice a n c
theorem yDx{l:List Prt}{ts:List Nat}(h:zC l=some ts):zT l=decide (ts.length=1):=by
 unfold zT;rw[h];match ts with
 |[]=>rfl
 |[_]=>rfl
 |_::_::_=>simp
theorem zUd{l:List Prt}(h:zC l=none):zT l=false:=by unfold zT;rw[h]
theorem zYm(l:List Prt)(hl:l.length<=1000000000)(v:Value)(w:World)(hr:zG w v l) :
  Calls Tryz.prog 45 #[v] w (wellPost l w):=by
 have HQ:Hid (∀v' x w',zT l=x->Below w.heap.size w w'->(zT l=true->zK w' v' .i64 (endsL l))->(∃a n c,v'=.slice a n c)->wellPost l w (.returned (.tuple #[v',.bool x])) w'):=Hd λv' x w' h1 h2 h3 h4=>by
  unfold wellPost;rw[h1];exact⟨v',rfl,h2,by rw[<-h1];exact h3,h4⟩
 generalize wellPost l w=Q at *;have C1:=Hd (zYl l hl v w hr);obtain⟨va,vcap,rfl,hvc⟩:=hr.slice;clear hr;go_enter Tryz.func45,Tryz.ntmps45;go_wp2_with fail;refine C1.out.mono ?_;intro e w1 h1;unfold endsPost at h1;cases hrow:zC l with
 |some ts =>
  rw[hrow]at h1;obtain⟨v1,rfl,hb1,hr1⟩:=h1;have HB1:=Hd hb1;have HR1:=Hd hr1;have hw:=yDx hrow;obtain⟨a1,c1,rfl,_,_⟩:=hr1.open';clear hb1 hr1 C1;by_cases ht:ts.length=1
  .have htb:((ts.length:Int)==1)=true:=by rw[beq_iff_eq];omega
   have HW:=Hd (hw.trans (decide_eq_true ht));clear hw ht;go_wp2_with fail;exact HQ.out _ _ _ HW.out HB1.out (λ_=>HR1.out) ⟨_,_,_,rfl⟩
  .have htb:((ts.length:Int)==1)=false:=by rw[bE];omega
   have HW:=Hd (hw.trans (decide_eq_false ht));clear hw ht;go_wp2_with fail;exact HQ.out _ _ _ HW.out HB1.out (λ_=>HR1.out) ⟨_,_,_,rfl⟩
 |none =>
  rw[hrow]at h1;obtain⟨rfl,hb1⟩:=h1;have HB1:=Hd hb1;have HW:=Hd (zUd hrow);clear hb1 C1;go_wp2_with fail;exact HQ.out _ _ _ HW.out HB1.out (λh=>by rw[HW.out]at h;cases h) ⟨_,_,_,rfl⟩
theorem zLs(l:List Prt)(hl:l.length<=1000000000)(v:Value)(w:World)(hr:zG w v l) :
  Calls Tryz.prog 28 #[v] w λe w'=>e=.returned (.bool (zT l))/\Below w.heap.size w w':=by
 have HQ:Hid (∀w',Below w.heap.size w w'->(λ(e:Ending) w'=>e=.returned (.bool (zT l))/\Below w.heap.size w w') (.returned (.bool (zT l))) w'):=Hd λw' h=>⟨rfl,h⟩
 generalize(λ(e:Ending) w'=>e=.returned (.bool (zT l))/\Below w.heap.size w w')=Q at *;have C1:=Hd (zYm l hl v w hr);obtain⟨va,vcap,rfl,hvc⟩:=hr.slice;clear hr;go_enter Tryz.func28,Tryz.ntmps28;go_wp2_with fail;refine C1.out.mono ?_;intro e w1 h1;unfold wellPost at h1;obtain⟨v1,rfl,hb1,_,a1,n1,c1,rfl⟩:=h1;have HB1:=Hd hb1;clear hb1 C1;generalize zT l=x at *;go_wp2_with fail;show Q (.returned (.bool x)) _;exact HQ.out _ HB1.out
end Go.Proofs.YtfpjdpdmgceciaaGreatDoor
namespace Go.Proofs.YtfpjdpdmgceciaaGreatDoor
set_option linter.all false
theorem zWh{l:List Prt}{a b:Nat}(h1:a<=b)(h2:b<=l.length):(piece l a b).length=b-a:=by
 unfold piece;rw[List.length_take,List.length_drop];omega
theorem zSc{l:List Prt}{a b:Nat}(h1:a<=b):l.drop a=piece l a b++l.drop b:=by
 unfold piece;have:=List.take_append_drop (b-a) (l.drop a);rw[List.drop_drop,show a+(b-a)=b by omega]at this;exact this.symm
theorem zWi{l:List Prt}{us:List Nat}(hl:zC l=some us){P R:List Prt}{vs:List Nat}(hP:zC P=some vs){i:Nat}(hd:l.drop i=P++R){x:Nat}(hx:x<P.length):zB l (i+x)=i+zB P x:=by
 obtain⟨t,ts,h1,h2,h3,h4⟩:=zNz hP hx;have hd2:l.drop (i+x)=P.drop x++R:=by
  rw[<-List.drop_drop,hd,List.drop_append_of_le_length Z]
 obtain⟨rs,hr⟩:=kD hl (i+P.length);have hR:l.drop (i+P.length)=R:=by rw[<-List.drop_drop,hd,List.drop_left]
 rw[hR]at hr;have h5:=zCn h1 hr;rw[<-hd2]at h5;unfold zB;rw[yY h5,yY h1];omega
section
variable (f:List Prt) (hs:List Hl) (v:Nat->List Prt)
mutual
def iPart:Nat->Nat->List Prt
 |0,_=>[]
 |n+1,p=>match vQ f hs p with
  |some h=>v h
  |none=>match f[p]? with
   |some a=>(a.1,(cntP (iKids n (p+1) (zB f p)):Int),a.2.2)::iKids n (p+1) (zB f p)
   |none=>[]
def iKids:Nat->Nat->Nat->List Prt
 |0,_,_=>[]
 |n+1,p,pend=>if p=pend then[]else iPart n p++iKids n (zB f p) pend
end
end
section
variable (f l:List Prt) (hs:List Hl)
end
structure Sits(P l:List Prt)(d:Nat):Prop where
 rP:∃us,zC P=some us
 rL:∃us,zC l=some us
 dr:∃R,l.drop d=P++R
theorem Sits.end_{P l:List Prt}{d:Nat}(h:Sits P l d){x:Nat}(hx:x<P.length):zB l (x+d)=zB P x+d:=by
 obtain⟨us,hl⟩:=h.rL;obtain⟨vs,hP⟩:=h.rP;obtain⟨R,hR⟩:=h.dr;have:=zWi hl hP hR hx;rw[show x+d=d+x by omega,this];omega
section
variable (f:List Prt) (hs:List Hl)
end
section
variable (f l:List Prt) (hs:List Hl)
theorem zSd{i:Nat}:∀{k u:Nat},upI l i k=(u:Int)->u<k/\i<zB l u/\∀j,u<j->j<k->zB l j<=i
 |0,u,h=>by rw[upI]at h;omega
 |k+1,u,h=>by
  rw[upI]at h;split at h
  .rename_i hc;obtain rfl:k=u:=Z;exact⟨Z,hc,λj h1 h2=>Z⟩
  .rename_i hc;obtain⟨h1,h2,h3⟩:=zSd h;refine⟨Z,h2,λj g1 g2=>?_⟩;by_cases e:j=k
   .subst e;omega
   .exact h3 j g1 Z
end
set_option maxRecDepth 100000
set_option maxHeartbeats 32000000
open Go.RowKit
theorem drewB{B:Nat}{a w:World}(h:Below B a w)(n:Nat):Below B a (w.drewN n):=⟨h.os,h.tape,h.output,h.size,h.block⟩
def TellsEq(x:Bool)(a b:List Prt):Prop:=x=true↔a=b
def PK(W:World)(g:Nat)(p:Prt):Prop:=W.heap[g]?=some (.cells #[.int .u8 (p.1:Int),.int .i64 p.2.1,.string p.2.2] 33 (0,0))
theorem PK.c0{W:World}{g:Nat}{p:Prt}(h:PK W g p):W.cell? ⟨g,0,none⟩=some (.int .u8 (p.1:Int)):=by unfold PK at h;simp[World.cell?,h]
theorem PK.c1{W:World}{g:Nat}{p:Prt}(h:PK W g p):W.cell? ⟨g,1,none⟩=some (.int .i64 p.2.1):=by unfold PK at h;simp[World.cell?,h]
theorem PK.c2{W:World}{g:Nat}{p:Prt}(h:PK W g p):W.cell? ⟨g,2,none⟩=some (.string p.2.2):=by unfold PK at h;simp[World.cell?,h]
theorem PK.keep{W W':World}{g:Nat}{p:Prt}(h:PK W g p)(hb:Below W.heap.size W W'):PK W' g p:=by unfold PK at h ⊢;rw[hb.block g (lt_of_block h)];exact h
theorem PK.alloc_new(W:World)(p:Prt):PK (W.alloc (.cells #[.int .u8 (p.1:Int),.int .i64 p.2.1,.string p.2.2] 33)) W.heap.size p:=by unfold PK;exact heap_alloc_new _ _
def sameRel(a b:List Prt)(w:World)(i:Value)(wr:World):Prop:=∃k:Nat,i=.int .i64 (k:Int)/\k<=a.length/\a.take k=b.take k/\Below w.heap.size w wr
theorem zYp(v1 v2:Value)(a b:List Prt)(hla:a.length<=1000000000)(hlb2:b.length<=1000000000)(w:World)(hr1:zG w v1 a)(hr2:zG w v2 b) :
  Calls Tryz.prog 23 #[v1,v2] w λe w'=>∃x,e=.returned (.bool x)/\TellsEq x a b/\Below w.heap.size w w':=by
 have HQ:Hid (∀x w',TellsEq x a b->Below w.heap.size w w'->(λ(e:Ending) w'=>∃x,e=.returned (.bool x)/\TellsEq x a b/\Below w.heap.size w w') (.returned (.bool x)) w'):=Hd λx w' h h2=>⟨x,rfl,h,h2⟩
 generalize(λ(e:Ending) w'=>∃x,e=.returned (.bool x)/\TellsEq x a b/\Below w.heap.size w w')=Q at *;have HR1:=Hd hr1;have HR2:=Hd hr2;obtain⟨a1,cap1,rfl,hcap1⟩:=hr1.slice;obtain⟨a2,cap2,rfl,hcap2⟩:=hr2.slice;clear hr1 hr2;go_enter Tryz.func23,Tryz.ntmps23;by_cases hl:a.length=b.length
 .have hlb:((a.length:Int)==(b.length:Int))=true:=by rw[beq_iff_eq];omega
  have hlc:((a.length:Int) != (b.length:Int))=false:=by rw[bne_eq_false_iff_eq];omega
  have hld:(a.length != b.length)=false:=by rw[bne_eq_false_iff_eq];exact hl
  have HL:=Hd hl;clear hl;go_wp2_with fail;go_loopw [14] (λi wr=>sameRel a b w i wr) (λi _=>a.length-(intOf i).toNat)
  case atStart=>exact⟨0,rfl,Nat.zero_le _,rfl,bR _ _⟩
  case round =>
   obtain⟨k,rfl,hk,htk,hb⟩:=hrel;have HB:=Hd hb;have HTK:=Hd htk;clear hb htk;by_cases hlt:k<a.length
   .have hlt':(k:Int)<a.length:=Z;have hkb:k<b.length:=by have:=HL.out;omega
    obtain⟨b1,o1,rfl,_,_,_,hc1⟩:=HR1.out.at HB.out (show 0<a.length by omega);obtain⟨b2,o2,rfl,_,_,_,hc2⟩:=HR2.out.at HB.out (show 0<b.length by omega);obtain⟨d0,d1,d2⟩:=hc1 k hlt;obtain⟨e0,e1,e2⟩:=hc2 k hkb;have hk0:(0:Int)<=k:=Z;have hlt2:(k:Int)<b.length:=Z;have hkc1:(k:Int)<cap1:=Z;have hkc2:(k:Int)<cap2:=Z;have hwk:IntKind.i64.wrap ((k:Int)+1)=((k+1:Nat):Int):=wI Z;have HK1:Hid (k+1<=a.length):=Hd hlt;have HML:Hid (a.length-(k+1)<a.length-k):=Hd Z;have HX:=Hd (λ(h:a[k]=b[k])=>show a.take (k+1)=b.take (k+1)by
     rw[List.take_succ_eq_append_getElem hlt,List.take_succ_eq_append_getElem hkb,HTK.out];exact congrArg (λz=>List.take k b++[z]) h)
    have HY:=Hd (λ(h:a[k]≠b[k])=>show TellsEq false a b from⟨(λe=>by cases e),λe=>absurd (by subst e;rfl) h⟩);clear hc1 hc2;generalize a[k]=x at *;generalize hye:b[k]=y at *;have HYE:=Hd hye;clear hye;obtain⟨xk,xn,xw⟩:=x;obtain⟨yk,yn,yw⟩:=y;simp only[]at d0 d1 d2 e0 e1 e2;have hA:Below wr.heap.size wr (wr.alloc (.cells #[.int .u8 (xk:Int),.int .i64 xn,.string xw] 33)):=(bR _ _).alloc (nR _) _;obtain⟨b2',o2',hbb,_,_,_,hc2⟩:=HR2.out.at (HB.out.trans (hA.mono HB.out.size)) (show 0<b.length by omega);simp only[Option.some.injEq,Addr.mk.injEq,and_true]at hbb;obtain⟨rfl,rfl⟩:=hbb;have hA2:=hc2 k hkb;rw[HYE.out]at hA2;obtain⟨e0',e1',e2'⟩:=hA2;have HPK:=PK.alloc_new wr (xk,xn,xw);have p0:=HPK.c0;have p1:=HPK.c1;have p2:=HPK.c2;have HB1:=Hd (HB.out.trans (hA.mono HB.out.size));clear hA HPK hc2;by_cases hE:xk=yk/\xn=yn/\xw=yw
    .obtain⟨rfl,rfl,rfl⟩:=hE;have HTK1:=Hd (HX.out rfl);clear HX HY;go_wp2_with fail;go_quiet (fail);have HB2:=Hd (drewB HB1.out nq);go_wp2_with fail;have HR:Hid (sameRel a b w (.int .i64 ((k+1:Nat):Int)) _):=Hd ⟨k+1,rfl,HK1.out,HTK1.out,HB2.out⟩;refine⟨?_,(by have:=HML.out;simp[intOf];try omega)⟩;first
      |exact HR.out
      | (repeat apply Exists.intro
         refine⟨?_,rfl⟩;exact HR.out)
    .have HF:=Hd (HY.out (λe=>hE (by simp only[Prod.mk.injEq]at e;exact e)));clear HX HY;have hcs:xk≠yk\/(xk=yk/\xn≠yn)\/(xk=yk/\xn=yn/\xw≠yw):=by
      by_cases h1:xk=yk
      .by_cases h2:xn=yn
       .exact Or.inr (Or.inr ⟨h1,h2,λh3=>hE ⟨h1,h2,h3⟩⟩)
       .exact Or.inr (Or.inl ⟨h1,h2⟩)
      .exact Or.inl h1
     clear hE;rcases hcs with h1|⟨rfl,h2⟩|⟨rfl,rfl,h3⟩
     .have f1:((xk:Int)==(yk:Int))=false:=by rw[bE];omega
      have f2:(xk==yk)=false:=by rw[bE];exact h1
      go_wp2_with fail;go_quiet (fail);have HB2:=Hd (drewB HB1.out nq);go_wp2_with fail;exact HQ.out _ _ HF.out HB2.out
     .have f1:(xn==yn)=false:=by rw[bE];exact h2
      go_wp2_with fail;go_quiet (fail);have HB2:=Hd (drewB HB1.out nq);go_wp2_with fail;exact HQ.out _ _ HF.out HB2.out
     .have f1:(xw.toList==yw.toList)=false:=by
       rw[bE];intro e;rw[ByteArray.toList_eq,ByteArray.toList_eq]at e;exact h3 (ByteArray.ext (Array.ext' e))
      go_wp2_with fail;go_quiet (fail);have HB2:=Hd (drewB HB1.out nq);go_wp2_with fail;exact HQ.out _ _ HF.out HB2.out
   .have hlt':¬(k:Int)<a.length:=Z;have HF:Hid (TellsEq true a b):=Hd ⟨λ_=>by
     have h:=HTK.out;have hl:=HL.out;rw[List.take_of_length_le Z,List.take_of_length_le Z]at h;exact h,λ_=>rfl⟩
    go_wp2_with fail;exact HQ.out _ _ HF.out HB.out
 .have hlb:((a.length:Int)==(b.length:Int))=false:=by rw[bE];omega
  have hlc:((a.length:Int) != (b.length:Int))=true:=by rw[bne_iff_ne];omega
  have hld:(a.length != b.length)=true:=by rw[bne_iff_ne];exact hl
  have HF:Hid (TellsEq false a b):=Hd ⟨(λe=>by cases e),λe=>absurd (by rw[e]) hl⟩;go_wp2_with fail;exact HQ.out _ _ HF.out (bR _ _)
theorem zVo{w w':World}{a:Option Addr}{n cap:Nat}{p:List Int}(h:zK w (.slice a n cap) .i64 p)(hb:Below w.heap.size w w')(hp:0<p.length) :
  ∃b off,a=some ⟨b,off,none⟩/\n=p.length/\p.length<=cap/\∀j x,p[j]?=some x->w'.cell? ⟨b,off+j,none⟩=some (.int .i64 x):=by
 obtain⟨a',cap',hv,hc,h2⟩:=(h.below hb).open';simp only[Value.slice.injEq]at hv;obtain⟨rfl,rfl,rfl⟩:=hv;obtain⟨b,off,ha,_,hcell⟩:=h2 hp;refine⟨b,off,ha,rfl,hc,λj x hx=>?_⟩;obtain⟨hj,rfl⟩:=List.getElem?_eq_some_iff.1 hx;exact hcell j hj
def aboveRel(l:List Prt)(i:Nat)(R:Int)(w:World)(u:Value)(wr:World):Prop:=∃k:Nat,u=.int .i64 ((k:Int)-1)/\k<=i/\upI l i k=R/\wr=w
def endI(o:Option Nat):Int:=match o with
 |some e=>e
 |none=>-1
def endRel(l:List Prt)(R:Option Nat)(w:World)(i n:Value)(wr:World):Prop :=
 ∃j m:Nat,i=.int .i64 (j:Int)/\n=.int .i64 (m:Int)/\j<=l.length/\m<=1+j*l.length/\endR l.length (l.drop j) m j=R/\wr=w
theorem fV(l:List Prt)(hl:l.length<=1000000000)(v:Value)(i:Nat)(hi:i<=l.length)(w:World)(hr:zG w v l) :
  Calls Tryz.prog 20 #[v,.int .i64 (i:Int)] w λe w'=>e=.returned (.int .i64 (endI (endR l.length (l.drop i) 1 i)))/\w=w':=by
 have HQ:Hid (∀x,endR l.length (l.drop i) 1 i=x->(λ(e:Ending) w'=>e=.returned (.int .i64 (endI (endR l.length (l.drop i) 1 i)))/\w=w') (.returned (.int .i64 (endI x))) w):=Hd λx h=>⟨by rw[h],rfl⟩
 generalize(λ(e:Ending) w'=>e=.returned (.int .i64 (endI (endR l.length (l.drop i) 1 i)))/\w=w')=Q at *;have HR:=Hd hr;obtain⟨va,vcap,rfl,hvc⟩:=hr.slice;clear hr;have HR0:Hid (endR l.length (l.drop i) 1 i=endR l.length (l.drop i) 1 i):=Hd rfl;generalize hRR:endR l.length (l.drop i) 1 i=R at *;have HRR:=Hd hRR;clear hRR HR0;go_enter Tryz.func20,Tryz.ntmps20;go_wp2_with fail;go_loopw [1,5] (λi n wr=>endRel l R w i n wr) (λi _ _=>l.length-(intOf i).toNat)
 case atStart=>exact⟨i,1,rfl,rfl,hi,Z,HRR.out,rfl⟩
 case round =>
  obtain⟨j,m,rfl,rfl,hj,hm,hE,rfl⟩:=hrel;have HE:=Hd hE;clear hE;have hjl:j*l.length<=1000000000000000000:=Nat.le_trans (Nat.mul_le_mul (show j<=1000000000 by omega) hl) V;have HM:=Hd hm;have HJL:=Hd hjl;have hmb:m<=1000000000000000001:=Z;clear hm hjl;by_cases hm0:0<m
  .have hm0':(0:Int)<m:=Z;obtain⟨n,rfl⟩:∃n,m=n+1:=⟨m-1,Z⟩;by_cases hlt:j<l.length
   .have hlt':(j:Int)<l.length:=Z;obtain⟨b,off,rfl,_,_,_,hcell⟩:=HR.out.at (bR _ _) (show 0<l.length by omega);have c0:=(hcell j hlt).2.1;have hdr:l.drop j=l[j]::l.drop (j+1):=List.drop_eq_getElem_cons hlt;have hst:=HE.out;rw[hdr,endR]at hst;have hj0:(0:Int)<=j:=Z;have hjn:¬(j:Int)<0:=Z;have hjc:(j:Int)<vcap:=Z;have hwj:IntKind.i64.wrap ((j:Int)+1)=(j:Int)+1:=wI Z;have hwn:IntKind.i64.wrap ((n:Int)+1-1)=(n:Int):=wI Z;clear hcell hdr;have HST:=Hd hst;clear hst;generalize(l[j]).2.1=x at *;by_cases hx0:x<0
    .have hF:R=none:=by rw[<-HST.out,iN Z]
     have HF:=Hd hF;clear hF;go_wp2_with fail;exact HQ.out none HF.out
    .by_cases hx1:(l.length:Int)<x
     .have hF:R=none:=by rw[<-HST.out,iN Z]
      have HF:=Hd hF;clear hF;go_wp2_with fail;exact HQ.out none HF.out
     .have hG:=HST.out;rw[iP ⟨Z,Z⟩]at hG;obtain⟨q,rfl⟩:∃q:Nat,x=q:=⟨x.toNat,Z⟩;rw[Int.toNat_natCast]at hG;have hwq:IntKind.i64.wrap ((n:Int)+(q:Int))=(n:Int)+(q:Int):=wI Z;have HRL:Hid (endRel l R wr (.int .i64 ((j+1:Nat):Int)) (.int .i64 ((n+q:Nat):Int)) wr):=Hd ⟨j+1,n+q,rfl,rfl,hlt,by have:=HM.out;rw[Nat.succ_mul];omega,hG,rfl⟩;have HML:Hid (l.length-(j+1)<l.length-j):=Hd Z;clear hG HST;go_wp2_with fail;refine⟨?_,(by have:=HML.out;simp[intOf];try omega)⟩;first
       |exact HRL.out
       | (repeat apply Exists.intro
          refine⟨?_,rfl⟩;exact HRL.out)
   .have hlt':¬(j:Int)<l.length:=Z;have hge:(l.length:Int)<=j:=Z;have hjn:¬(j:Int)<0:=Z;have hF:R=none:=by rw[<-HE.out,List.drop_of_length_le Z,endR]
    have HF:=Hd hF;clear hF;go_wp2_with fail;exact HQ.out none HF.out
  .obtain rfl:m=0:=Z;have hF:R=some j:=by rw[<-HE.out,fZ]
   have HF:=Hd hF;clear hF;go_wp2_with fail;exact HQ.out (some j) HF.out
theorem zIy(l:List Prt)(hl:l.length<=1000000000)(v:Value)(w:World)(hr:zG w v l) :
  Calls Tryz.prog 19 #[v] w λe w'=>e=.returned (.bool (zT l))/\w=w':=by
 have HQ:Hid (∀x,zT l=x->(λ(e:Ending) w'=>e=.returned (.bool (zT l))/\w=w') (.returned (.bool x)) w):=Hd λx h=>⟨by rw[h],rfl⟩
 generalize(λ(e:Ending) w'=>e=.returned (.bool (zT l))/\w=w')=Q at *;have C1:=fV l hl v 0 (Nat.zero_le _) w hr;rw[List.drop_zero]at C1;have C1:=Hd C1;have hw:=@zYo l;obtain⟨va,vcap,rfl,hvc⟩:=hr.slice;clear hr;by_cases h0:0<l.length
 .have h0':(0:Int)<l.length:=Z;go_enter Tryz.func19,Tryz.ntmps19;go_wp2_with fail;refine C1.out.mono ?_;rintro e w1 ⟨rfl,rfl⟩;cases hE:endR l.length l 1 0 with
  |none =>
   have HW:Hid (zT l=false):=Hd (by
    cases g:zT l with
    |false=>rfl
    |true=>rw[hE]at hw;have:=(hw.2 g).2;cases this)
   have hb:((-1:Int)==(l.length:Int))=false:=by rw[bE];omega
   clear hw;show _;simp only[endI];go_wp2_with fail;exact HQ.out _ HW.out
  |some x =>
   by_cases hx:x=l.length
   .have HW:Hid (zT l=true):=Hd (hw.1 ⟨h0,by rw[hE,hx]⟩);have hb:((x:Int)==(l.length:Int))=true:=by rw[beq_iff_eq];omega
    clear hw hE;simp only[endI];generalize l.length=ll at *;go_wp2_with fail;exact HQ.out _ HW.out
   .have HW:Hid (zT l=false):=Hd (by
     cases g:zT l with
     |false=>rfl
     |true=>rw[hE]at hw;have:=(hw.2 g).2;cases this;exact absurd rfl hx)
    have hb:((x:Int)==(l.length:Int))=false:=by rw[bE];omega
    clear hw hE;simp only[endI];go_wp2_with fail;exact HQ.out _ HW.out
 .have h0':¬(0:Int)<l.length:=Z;have HW:Hid (zT l=false):=Hd (by
   cases g:zT l with
   |false=>rfl
   |true=>exact absurd (hw.2 g).1 h0)
  clear hw;go_enter Tryz.func19,Tryz.ntmps19;go_wp2_with fail;exact HQ.out _ HW.out
def treesV(l:List Prt)(m j:Nat):Int:=match zC (l.drop j)with
 |some ts=>((m+ts.length:Nat):Int)
 |none=>-1
theorem zNq(l:List Prt):treesV l 0 0=zAv l:=by
 unfold treesV zAv;rw[List.drop_zero];cases zC l with
 |none=>rfl
 |some ts=>simp
theorem zTh(l:List Prt)(m j:Nat)(h:l.length<=j):treesV l m j=m:=by
 unfold treesV;rw[List.drop_of_length_le h,xJ];simp
theorem zTi(l:List Prt)(j:Nat)(hj:j<l.length):(endR l.length (l.drop j) 1 j=none/\∀m,treesV l m j=-1)\/∃e,endR l.length (l.drop j) 1 j=some e/\j<e/\e<=l.length/\∀m,treesV l m j=treesV l (m+1) e:=by
 cases hr:zC (l.drop j)with
 |some ts =>
  have hs:=yL hr;rw[List.length_drop]at hs;match ts with
  |[]=>simp at hs;omega
  |t::ts =>
   have ht:=hs.2.2 t Ob;have hsum:=hs.1;rw[List.sum_cons]at hsum;refine Or.inr ⟨j+t,?_,Z,Z,λm=>?_⟩
   .rw[zCm l.length hr (by rw[List.length_drop];omega),iP Ob];simp
   .have hk:=zAs 1 hr Ob;simp only[List.take_succ_cons,List.take_zero,List.sum_cons,List.sum_nil,Nat.add_zero,List.drop_succ_cons,List.drop_zero,List.drop_drop]at hk;unfold treesV;rw[hr,hk];simp only[lC]
    congr 1;omega
 |none =>
  cases he:endR l.length (l.drop j) 1 j with
  |none=>exact Or.inl ⟨rfl,λm=>by unfold treesV;rw[hr]⟩
  |some e =>
   have hle2:=zNy _ _ _ _ _ he;rw[List.length_drop]at hle2;obtain⟨us,u1,u2⟩:=jX _ _ _ _ _ he;have hue:=(yL u1).2.1;rw[List.length_take,List.length_drop,u2]at hue;refine Or.inr ⟨e,rfl,Z,Z,λm=>?_⟩;have hd:zC (l.drop e)=none:=by
    cases hd:zC (l.drop e)with
    |none=>rfl
    |some ts =>
     exfalso;have h2:zC ((l.drop j).drop (e-j))=some ts:=by rw[List.drop_drop,show j+(e-j)=e by omega];exact hd
     have:=zCn u1 h2;rw[List.take_append_drop,hr]at this;cases this
   unfold treesV;rw[hr,hd]
def treesRel(l:List Prt)(R:Int)(w:World)(n i:Value)(wr:World):Prop :=
 ∃m j:Nat,n=.int .i64 (m:Int)/\i=.int .i64 (j:Int)/\j<=l.length/\m<=j/\treesV l m j=R/\wr=w
theorem zQm(l:List Prt)(hl:l.length<=1000000000)(v:Value)(w:World)(hr:zG w v l) :
  Calls Tryz.prog 18 #[v] w λe w'=>e=.returned (.int .i64 (zAv l))/\w=w':=by
 have HQ:Hid (∀x,zAv l=x->(λ(e:Ending) w'=>e=.returned (.int .i64 (zAv l))/\w=w') (.returned (.int .i64 x)) w):=Hd λx h=>⟨by rw[h],rfl⟩
 generalize(λ(e:Ending) w'=>e=.returned (.int .i64 (zAv l))/\w=w')=Q at *;have hst:=zNq l;generalize hRR:zAv l=R at *;have HRR:=Hd hst;have CE:=Hd (λi hi=>fV l hl v i hi w hr);obtain⟨va,vcap,rfl,hvc⟩:=hr.slice;clear hr hst hRR;go_enter Tryz.func18,Tryz.ntmps18;go_wp2_with fail;go_loopw [3,4] (λn i wr=>treesRel l R w n i wr) (λ_ i _=>l.length-(intOf i).toNat)
 case atStart=>exact⟨0,0,rfl,rfl,Nat.zero_le _,nR _,HRR.out,rfl⟩
 case round =>
  obtain⟨m,j,rfl,rfl,hj,hm,hE,rfl⟩:=hrel;have HE:=Hd hE;clear hE;by_cases hlt:j<l.length
  .have hlt':(j:Int)<l.length:=Z;have C1:=CE.out j hj;rcases zTi l j hlt with⟨h1,h2⟩|⟨e,h1,h2,h3,h4⟩
   .rw[h1]at C1;have C1:=Hd C1;have HF:=Hd (show R=-1 by rw[<-HE.out,h2]);clear h1 h2;go_wp2_with fail;refine C1.out.mono ?_;rintro e w1 ⟨rfl,rfl⟩;simp only[endI];go_wp2_with fail;exact HQ.out _ HF.out
   .rw[h1]at C1;have C1:=Hd C1;have he0:¬(e:Int)<0:=Z;have hwm:IntKind.i64.wrap ((m:Int)+1)=(m:Int)+1:=wI Z;have HRL:Hid (treesRel l R wr (.int .i64 ((m+1:Nat):Int)) (.int .i64 (e:Int)) wr):=Hd ⟨m+1,e,rfl,rfl,h3,Z,by rw[<-h4];exact HE.out,rfl⟩;have HML:Hid (l.length-e<l.length-j):=Hd Z;clear h1 h2 h3 h4;go_wp2_with fail;refine C1.out.mono ?_;rintro e' w1 ⟨rfl,rfl⟩;simp only[endI];go_wp2_with fail;refine⟨?_,(by have:=HML.out;simp[intOf];try omega)⟩;first
     |exact HRL.out
     | (repeat apply Exists.intro
        refine⟨?_,rfl⟩;exact HRL.out)
  .have hlt':¬(j:Int)<l.length:=Z;have HF:=Hd (show R=(m:Int)by rw[<-HE.out,zTh l m j Z]);go_wp2_with fail;exact HQ.out _ HF.out
@[irreducible] def kidsPost(p:List Int)(w0:World)(e:Ending)(w':World):Prop :=
 ∃v,e=.returned v/\Below w0.heap.size w0 w'/\zK w' v .i64 p
theorem zUe(l:List Prt)(hl:l.length<=1000000000)(us:List Nat)(hus:zC l=some us)(v:Value)(i:Nat)(hi:i<l.length)(w:World)(hr:zG w v l) :
  Calls Tryz.prog 17 #[v,.int .i64 (i:Int)] w (kidsPost ((kidsB l i).map λ(x:Nat)=>(x:Int)) w):=by
 have HQ:Hid (∀v' w',Below w.heap.size w w'->zK w' v' .i64 ((kidsB l i).map λ(x:Nat)=>(x:Int))->kidsPost ((kidsB l i).map λ(x:Nat)=>(x:Int)) w (.returned v') w'):=Hd λv' w' h2 h3=>by
  unfold kidsPost;exact⟨v',rfl,h2,h3⟩
 have HR:=Hd hr;obtain⟨va,vcap,rfl,hvc⟩:=hr.slice;clear hr;obtain⟨ts,q,f1,f2,f3,f4,f5⟩:=zDf hus hi;have HST:=Hd (λn (hn:n<q)=>zJm hus f1 f3 hn);have HCE:=Hd (λ(W':World)(hb:Below w.heap.size w W') k (hk:k<l.length)=>show Calls Tryz.prog 20 #[.slice va l.length vcap,.int .i64 (k:Int)] W' λe w'=>e=.returned (.int .i64 (zB l k:Int))/\W'=w' by
  have:=fV l hl _ k Z W' (HR.out.below hb);rw[zEm hus hk]at this;exact this)
 have HK5:=Hd f5;have HE4:=Hd f4;have HQT:=Hd f3;have hqt:ts.length<=l.length:=by have:=(yL f1).2.1;rw[List.length_drop]at this;omega
 have hqb:q<=1000000000:=Z;have hee:=(zS hus hi).2;rw[f4]at hee;obtain⟨b,off,rfl,_,_,_,hcell⟩:=HR.out.at (bR _ _) (show 0<l.length by omega);have hc1:=(hcell i hi).2.1;rw[f2]at hc1;have HC:Hid (∀W',Below w.heap.size w W'->W'.cell? ⟨b,off+i*3+1,none⟩=some (.int .i64 (q:Int))):=Hd λW' hb=>by
  obtain⟨b',off',hbb,_,_,_,hcc⟩:=HR.out.at hb (show 0<l.length by omega);simp only[Option.some.injEq,Addr.mk.injEq,and_true]at hbb;obtain⟨rfl,rfl⟩:=hbb;rw[(hcc i hi).2.1,f2]
 generalize kidsPost ((kidsB l i).map λ(x:Nat)=>(x:Int)) w=Q at *;have hji:(i:Int)<l.length:=Z;have hj0:(0:Int)<=i:=Z;have hjc:(i:Int)<vcap:=Z;have hwj:IntKind.i64.wrap ((i:Int)+1)=(i:Int)+1:=wI Z;clear f1 f2 f3 f4 f5 hcell hc1;go_enter Tryz.func17,Tryz.ntmps17;go_wp2_with fail;go_loopw [5,6,7] (λv k c wr=>∃n:Nat,c=.int .i64 (n:Int)/\n<=q/\k=.int .i64 ((i+1+(ts.take n).sum:Nat):Int)/\wr.ownsRow w.heap.size 3 1 v n (((starts (i+1) ts).take n).map λ(x:Nat)=>Value.int .i64 (x:Int))/\Below w.heap.size w wr) (λ_ _ c _=>q-(intOf c).toNat)
 case atStart=>exact⟨0,rfl,Nat.zero_le _,Ob,World.ownsRow_nil _ _ _ _,bR _ _⟩
 case round =>
  obtain⟨n,rfl,hn,rfl,ho,hb⟩:=hrel;have HO:=Hd ho;have HB:=Hd hb;have HNN:=Hd hn;obtain⟨_,oa,oc,rfl,_,_,_⟩:=Row.of_owns ho;have d0:=HC.out _ HB.out;have hbs:=hb.size;clear ho hb hn;by_cases hlt:n<q
  .obtain⟨g1,g2,g3,g4,g5,g6⟩:=HST.out n hlt;have HG3:=Hd g3;have hlt':(n:Int)<q:=Z;have hC:=λW' hb=>HCE.out W' hb _ g1;rw[g2]at hC;have HCK:=Hd hC;have hnb:n<=1000000000:=Z;have HN1:Hid (n+1<=q):=Hd hlt;have HMS:Hid (q-(n+1)<q-n):=Hd Z;have hwn:IntKind.i64.wrap ((n:Int)+1)=(n:Int)+1:=wI Z;clear g1 g2 g3 g4 g5 g6 hC;generalize hK1:i+1+(ts.take n).sum=K1 at *;generalize hK2:i+1+(ts.take (n+1)).sum=K2 at *;have HK2:=Hd hK2;clear hK1 hK2;go_wp2_with (at_builtin;refine zQ wr #[.int .i64 (K1:Int)] _ rfl _ _ 31 3 rfl Tryz.underlying31 w.heap.size gI rfl V _ _ _ rfl HO.out 1 1 rfl rfl V (by intro u hu;simp at hu;subst hu;rfl) Z Z hbs ?_);intro v' w' hown hgr _;have hb':=xM HB.out hbs HO.out hgr;have CK:=Hd (HCK.out w' hb');have HRL:Hid (w'.ownsRow w.heap.size 3 1 v' (n+1) (((starts (i+1) ts).take (n+1)).map λ(x:Nat)=>Value.int .i64 (x:Int))/\Below w.heap.size w w'):=Hd ⟨by have h:=hown;rw[HG3.out];simpa using h,hb'⟩;obtain⟨_,va',vc',rfl,_,_,_⟩:=Row.of_owns hown;clear hown hgr hb' d0;go_wp2_with fail;refine CK.out.mono ?_;rintro e w2 ⟨rfl,rfl⟩;go_wp2_with fail;refine⟨⟨n+1,congrArg (Value.int .i64) Z,HN1.out,by rw[HK2.out],HRL.out.1,HRL.out.2⟩,?_⟩;have:=HMS.out;simp only[intOf];omega
  .have hnq:n=q:=by have:=HNN.out;omega
   subst hnq;have HRW:=Hd (zK.of_owns (l:=(kidsB l i).map λ(x:Nat)=>(x:Int)) (k:=.i64) (by rw[HK5.out,List.map_map];exact HO.out));go_wp2_with fail;exact HQ.out _ _ HB.out HRW.out
theorem zRe(l:List Prt)(hl:l.length<=1000000000)(us:List Nat)(hus:zC l=some us)(v:Value)(i:Nat)(hi:i<l.length)(w:World)(hr:zG w v l) :
  Calls Tryz.prog 16 #[v,.int .i64 (i:Int)] w λe w'=>e=.returned (.int .i64 (upI l i i))/\w=w':=by
 have HQ:Hid (∀x,upI l i i=x->(λ(e:Ending) w'=>e=.returned (.int .i64 (upI l i i))/\w=w') (.returned (.int .i64 x)) w):=Hd λx h=>⟨by rw[h],rfl⟩
 generalize(λ(e:Ending) w'=>e=.returned (.int .i64 (upI l i i))/\w=w')=Q at *;have HR:=Hd hr;obtain⟨va,vcap,rfl,hvc⟩:=hr.slice;clear hr;have HCE:=Hd (λk (hk:k<l.length)=>show Calls Tryz.prog 20 #[.slice va l.length vcap,.int .i64 (k:Int)] w λe w'=>e=.returned (.int .i64 (zB l k:Int))/\w=w' by
  have:=fV l hl _ k Z w HR.out;rw[zEm hus hk]at this;exact this)
 have HR0:Hid (upI l i i=upI l i i):=Hd rfl;generalize hRR:upI l i i=R at *;have HRR:=Hd hRR;clear hRR HR0;have hwi:IntKind.i64.wrap ((i:Int)-1)=(i:Int)-1:=wI Z;go_enter Tryz.func16,Tryz.ntmps16;go_wp2_with fail;go_loopw [5] (λu wr=>aboveRel l i R w u wr) (λu _=>(intOf u+1).toNat)
 case atStart=>exact⟨i,rfl,nR _,HRR.out,rfl⟩
 case round =>
  obtain⟨k,rfl,hk,hU,rfl⟩:=hrel;by_cases hk0:0<k
  .obtain⟨j,rfl⟩:∃j,k=j+1:=⟨k-1,Z⟩;rw[show(((j+1:Nat):Int)-1)=(j:Int)by omega];have C1:=Hd (HCE.out j Z);have hj0:(0:Int)<=j:=Z;have hwj:IntKind.i64.wrap ((j:Int)-1)=(j:Int)-1:=wI Z;rw[upI]at hU;generalize zB l j=ee at *;by_cases hle:i<ee
   .rw[iP hle]at hU;have HF:=Hd hU;have hle':(i:Int)<ee:=Z;clear hU;go_wp2_with fail;refine C1.out.mono ?_;rintro e w2 ⟨rfl,rfl⟩;go_wp2_with fail;exact HQ.out _ HF.out.symm
   .rw[iN hle]at hU;have HRL:Hid (aboveRel l i R wr (.int .i64 ((j:Int)-1)) wr):=Hd ⟨j,rfl,Z,hU,rfl⟩;have hle':¬(i:Int)<ee:=Z;clear hU;go_wp2_with fail;refine C1.out.mono ?_;rintro e w2 ⟨rfl,rfl⟩;go_wp2_with fail;refine⟨?_,(by simp only[intOf];omega)⟩;first
     |exact HRL.out
     | (repeat apply Exists.intro
        refine⟨?_,rfl⟩;exact HRL.out)
  .obtain rfl:k=0:=Z;rw[show(((0:Nat):Int)-1)=-1 by rfl];rw[upI]at hU;have HF:=Hd hU;clear hU;go_wp2_with fail;exact HQ.out _ HF.out.symm
end Go.Proofs.YtfpjdpdmgceciaaGreatDoor
