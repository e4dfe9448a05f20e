/- Layer 12: files (printed by tools/gensyn2.py). -/
import Derived.Test.YtfpjdpdmgceciaaGreatDoorPsVTg
import Derived.Test.YtfpjdpdmgceciaaGreatDoorUntilTg
import Derived.Test.YtfpjdpdmgceciaaGreatDoorPsdTg
import Derived.Test.YtfpjdpdmgceciaaGreatDoorPs2Tg
import Derived.Test.YtfpjdpdmgceciaaGreatDoorPsRTg
import Derived.Test.YtfpjdpdmgceciaaGreatDoorTermTg
namespace Go.Proofs.YtfpjdpdmgceciaaGreatDoor
set_option linter.all false
attribute [local irreducible] Calls
attribute [local irreducible] wpStill
open Go.RowKit
section
variable {E:SynE}
end
end Go.Proofs.YtfpjdpdmgceciaaGreatDoor
namespace Go.Proofs.YtfpjdpdmgceciaaGreatDoor
set_option linter.all false
theorem IH.all{E:SynE}(F:SynF E):∀m,IH E m
 |0=>by
  constructor;all_goals((try unfold Ok);(try unfold Okk);(try unfold OkN))
  all_goals(intros;omega)
 |m+1=>by
  have HF:=Hd F;have HI:=Hd (IH.all F m);exact⟨yHn HF HI,zSl HF HI,zPi HF HI,yEu HF HI,yAi HF HI,zSs HF HI,zSi HF HI,yAj HF HI,yAk HF HI,zMn HF HI,zWs HF HI,yAn HF HI,zSu HF HI,yAl HF HI,yAr HF HI,yAo HF HI,yEv HF HI,zSj HF HI,yAm HF HI,zPj HF HI,yAp HF HI,zPh HF HI,yEw HF HI,yAq HF HI,zWu HF HI,zPe HF HI,zSk HF HI,zPf HF HI,zWt HF HI,yHo HF HI,zPx HF HI,zSt HF HI,yFb HF HI,yBi HF HI,zMz HF HI,zNa HF HI,zPy HF HI,zKe HF HI,yIu HF HI,zWw HF HI⟩
set_option maxRecDepth 100000
set_option maxHeartbeats 32000000
attribute [local irreducible] Calls
attribute [local irreducible] wpStill
open Go.RowKit
abbrev walkV(sb tb xb ob wb:Nat):Value:=.func (.func 13) #[] #[ptrV sb,ptrV tb,ptrV xb,ptrV ob,ptrV wb]
structure TmI(E:SynE)(sb tb xb ob wb:Nat)(ov:Value)(out:List Prt)(W:World):Prop where
 r:Rd E W 0
 x:W.heap[xb]?=some (.cells #[ptrV E.gr] 44 (0,0))
 o:W.heap[ob]?=some (.cells #[ov] 22 (0,0))
 w:W.heap[wb]?=some (.cells #[walkV sb tb xb ob wb] 47 (0,0))
 row:W.ownsRow (wb+1) 33 3 ov out.length (zP out)
 lt:E.gr<xb/\xb<ob/\ob<wb/\wb<W.heap.size
structure TmS(E:SynE)(sb tb:Nat):Prop where
 T:SynT E
 s:E.w0.cell? ⟨sb,0,none⟩=some (.string E.s)
 t:E.w0.cell? ⟨tb,0,none⟩=some E.vt
 ls:sb<E.w0.heap.size
 lt:tb<E.w0.heap.size
section
variable {E:SynE} {W W':World} {sb tb xb ob wb:Nat} {ov:Value} {out:List Prt}
theorem TmI.ext(h:TmI E sb tb xb ob wb ov out W)(hb:Below W.heap.size W W'):TmI E sb tb xb ob wb ov out W' :=
 ⟨h.r.ext hb,keeps hb h.x,keeps hb h.o,keeps hb h.w,yM h.row hb,h.lt.1,h.lt.2.1,h.lt.2.2.1,Nat.lt_of_lt_of_le h.lt.2.2.2 hb.size⟩
theorem TmI.boxes(h:TmI E sb tb xb ob wb ov out W)(hs:TmS E sb tb) :
  W.cell? ⟨sb,0,none⟩=some (.string E.s)/\W.cell? ⟨tb,0,none⟩=some E.vt/\W.cell? ⟨xb,0,none⟩=some (ptrV E.gr)/\W.cell? ⟨ob,0,none⟩=some ov/\W.cell? ⟨wb,0,none⟩=some (walkV sb tb xb ob wb)/\W.frozen? ⟨ob,0,none⟩=false:=by
 refine⟨by rw[h.r.below.cell (p:=⟨sb,0,none⟩) hs.ls];exact hs.s,by rw[h.r.below.cell (p:=⟨tb,0,none⟩) hs.lt];exact hs.t,?_,?_,?_,?_⟩
 .simp[World.cell?,h.x]
 .simp[World.cell?,h.o]
 .simp[World.cell?,h.w]
 .simp[World.frozen?,h.o]
theorem Good.via{E E':SynE}(hs:E'.s=E.s)(ht:E'.toks=E.toks){W:World}{F:Nat->Prop}{g k:Nat}{gs:List Nat}{ps:List Prt}(h:Good E W F g k gs ps):Good E' W F g k gs ps:=by
 induction h with
 |mk g k word frm tx v gs pss h0 hc hw hr hkk hl kind kids ih ih2 =>
  have e:textZ E k word=textZ E' k word:=by unfold textZ wordZ SynE.N;rw[hs,ht]
  rw[e];have ek:kOK E' k word gs.length=kOK E k word gs.length:=by unfold kOK kindZ SynE.N;rw[ht]
  exact .mk g k word frm tx v gs pss h0 hc (by unfold SynE.N at *;rw[ht];exact hw) hr ⟨hkk.1,ek▸hkk.2⟩ hl kind kids ih2
theorem yFf:(Tryz.prog.info? 33).map (λi=>(i.zero,i.size,i.bytes))=some (some (.agg #[.int .u8 0,.int .i64 0,.string ByteArray.empty]),3,32):=Oa
theorem zCb{W W':World}{b:Nat}(h:W'.heap[b]?=W.heap[b]?)(i:Nat):W'.cell? ⟨b,i,none⟩=W.cell? ⟨b,i,none⟩:=by simp[World.cell?,h]
theorem zLf(pss:List (List Prt))(i:Nat)(h:i<pss.length):(pss.take (i+1)).flatten=(pss.take i).flatten++pss[i]:=by
 rw[List.take_succ_eq_append_getElem h,List.flatten_append,List.flatten_cons,List.flatten_nil,List.append_nil]
theorem yFg(pss:List (List Prt))(i:Nat)(h:i<pss.length):(pss.take i).flatten.length+pss[i].length<=pss.flatten.length:=by
 have h1:pss.flatten=(pss.take (i+1)).flatten++(pss.drop (i+1)).flatten:=by rw[<-List.flatten_append,List.take_append_drop]
 rw[h1,zLf pss i h];simp only[lA];omega
theorem zNc:∀(pss:List (List Prt)),(∀p∈pss,1<=p.length)->pss.length<=pss.flatten.length
 |[],_=>nR _
 |p::l,h=>by
  have h1:=h p (.head _);have h2:=zNc l (λq hq=>h q (.tail _ hq));simp only[List.flatten_cons,lA,lC];omega
theorem TmI.part(h:TmI E sb tb xb ob wb ov out W)(p:Prt)(hn:out.length+1<=1000000000) :
  ∃v1 w1,(Builtin.append_ #[22,22] 22 #[ov,.slice (some ⟨W.heap.size,0,none⟩) 1 1]).run Tryz.prog (W.alloc (.cells #[.int .u8 (p.1:Int),.int .i64 p.2.1,.string p.2.2] 33))=.ok v1 w1/\w1.cell? ⟨ob,0,none⟩=some ov/\w1.frozen? ⟨ob,0,none⟩=false/\(∀b,b<=wb->w1.heap[b]?=W.heap[b]?)/\TmI E sb tb xb ob wb v1 (out++[p]) (w1.setCell ⟨ob,0,none⟩ v1):=by
 obtain⟨l1,l2,l3,l4⟩:=h.lt;have hgr:E.w0.heap.size=E.gr:=rfl;obtain⟨v1,w1,r1,o1,g1,p1⟩:=vV (P:=Tryz.prog) W #[.int .u8 (p.1:Int),.int .i64 p.2.1,.string p.2.2] 33 22 22 33 Tryz.underlying22 (wb+1) yFf rfl V ov out.length _ h.row 1 1 rfl (nR _) (by intro u hu;simp at hu;rcases hu with rfl|rfl|rfl<;>rfl) Z Z Z;have oa:=h.row.alloc (.cells #[.int .u8 (p.1:Int),.int .i64 p.2.1,.string p.2.2] 33);have blk:∀b,b<=wb->w1.heap[b]?=W.heap[b]?:=λb hb=>by
  rw[g1.block b (by simp;omega) (λe=>by have:=(oa.lt b e.symm).1;omega),Below.heap_alloc _ _ _ Z]
 have hsz:W.heap.size<=w1.heap.size:=by have:=g1.size;simp at this;omega
 have hbA:Below E.w0.heap.size E.w0 w1:=(h.r.below.alloc Z _).grown g1 (by simp;omega) (λk e=>by have:=(oa.lt k e).1;omega);have ho:w1.heap[ob]?=some (.cells #[ov] 22 (0,0)):=(blk ob Z).trans h.o;obtain⟨t,ht⟩:=h.r.cell;refine⟨v1,w1,r1,by simp[World.cell?,ho],by simp[World.frozen?,ho],blk,⟨hbA.setCell (p:=⟨ob,0,none⟩) (by show E.w0.heap.size<=ob;omega) _,⟨t,?_⟩,h.r.le⟩,?_,?_,?_,?_,⟨l1,l2,l3,by simp;omega⟩⟩
 .rw[heap_setCell_other _ _ _ _ (show E.gr≠ob by omega),blk _ Z];exact ht
 .rw[heap_setCell_other _ _ _ _ (show xb≠ob by omega),blk _ Z];exact h.x
 .exact heap_setCell_same w1 ob 0 _ _ v1 ho
 .rw[heap_setCell_other _ _ _ _ (show wb≠ob by omega),blk _ Z];exact h.w
 .rw[lA,xR];exact ownsRow_setCell_other o1 (a:=⟨ob,0,none⟩) (λe=>by have:=(o1.lt ob e).1;omega) v1
theorem keepB{W0 W:World}(h:Below W0.heap.size W0 W){b:Nat}{o:Obj}(hc:W0.heap[b]?=some o):W.heap[b]?=some o:=by rw[h.block b (lt_of_block hc)];exact hc
def tokZ(E:SynE)(w:Int):ByteArray:=if w<0 then ByteArray.empty else match E.toks[w.toNat]? with
 |some t=>E.s.extract t.2.1 t.2.2
 |none=>ByteArray.empty
theorem zQa(E:SynE)(k:Nat)(w:Int):textZ E k w=if k=45 then(if tokZ E w=⟨#[60,45]⟩then⟨#[60,45,99,104,97,110]⟩else if wordZ E (w+1)=⟨#[60,45]⟩then⟨#[99,104,97,110,60,45]⟩else tokZ E w)else tokZ E w:=rfl
theorem yBm{x:ByteArray}{l:List UInt8}(h:x.toList=l):x=⟨l.toArray⟩:=by
 rw[ByteArray.toList_eq]at h;subst h;cases x
 simp
theorem yBn{x:ByteArray}{l:List UInt8}(h:(x.toList==l)=false):¬x=⟨l.toArray⟩:=by
 rintro rfl;rw[ByteArray.toList_eq]at h;simp at h
@[irreducible] def TmQ(E:SynE)(sb tb xb ob wb:Nat)(out:List Prt)(e:Ending)(W':World):Prop :=
 e=.returned (.tuple #[])/\∃ov,TmI E sb tb xb ob wb ov out W'
theorem tm_walk(hs:TmS E sb tb){g k:Nat}{gs:List Nat}{ps:List Prt}(hG:Good E E.w0 (λb=>b<E.w0.heap.size) g k gs ps) :
  ∀{W:World}{ov:Value}{out:List Prt},TmI E sb tb xb ob wb ov out W->out.length+ps.length<=1000000->
   Calls Tryz.prog 13 #[ptrV g,ptrV sb,ptrV tb,ptrV xb,ptrV ob,ptrV wb] W (TmQ E sb tb xb ob wb (out++ps)):=by
 induction hG with
 |mk g k word frm tx v gs pss h0 hc hw hr hkk hl kind kids ih ih2 =>
 intro W ov out h hlen;have hgN:gs.length<=1000000:=by
  have h1:=zNc pss (λp hp=>by obtain⟨i,hi,rfl⟩:=List.getElem_of_mem hp;exact Good.pos (ih i Z hi));simp only[lC]at hlen;omega
 obtain⟨bs,bt,bx,bo,bw,zo⟩:=h.boxes hs;have hg:W.heap[g]?=some (nodeC k word frm tx v):=keepB h.r.below hc;have n0:W.cell? ⟨g,0,none⟩=some (.int .u8 (k:Int)):=by simp[World.cell?,hg]
 have n1:W.cell? ⟨g,1,none⟩=some (.int .i64 word):=by simp[World.cell?,hg]
 have n4:W.cell? ⟨g,4,none⟩=some v:=by simp[World.cell?,hg]
 have HI:=Hd h;go_enter Tryz.func13,Tryz.ntmps13;go_upto_if 14 with(fail);go_cut [7]from 15 to 33 (λv W'=>v=.string (tokZ E word)/\Below W.heap.size W W')
 case first =>
  by_cases hw0:0<=word
  .obtain⟨n,rfl⟩:∃n:Nat,word=n:=⟨word.toNat,Z⟩;have hn:n<E.toks.length:=by have:=hw.2;unfold SynE.N at this;omega
   obtain⟨va,vc,hv,hcap,hT⟩:=hs.T.T.below h.r.below;obtain⟨b,rfl,hbl,hcell⟩:=hT Z;obtain⟨c0,c1,c2⟩:=hcell n hn;obtain⟨-,o3,o4⟩:=hs.T.ok _ (gM hn);have hz:=hs.T.sz;have e:tokZ E (n:Int)=E.s.extract E.toks[n].2.1 E.toks[n].2.2:=by unfold tokZ;rw[iN Z];simp[gE hn]
   rw[hv]at bt;have HE:=Hd e;have HB:∀q:Nat,Hid (Below W.heap.size W (W.drewN q)):=λq=>Hd (below_drewN (bR _ _) q)
   generalize E.toks[n].2.1=fr at *;generalize E.toks[n].2.2=tx1 at *;have hnI:(n:Int)<E.toks.length:=Z;have o3':(fr:Int)<=tx1:=Z;have o4':(tx1:Int)<=E.s.size:=Z;have r2:decide (tx1<fr)=false:=decide_eq_false Z;have r3:decide (E.s.size<tx1)=false:=decide_eq_false Z;have r4:¬(tx1:Int)<fr:=Z;have r5:¬(E.s.size:Int)<tx1:=Z;have hn2:¬E.toks.length<=n:=Z;clear ih ih2 hs hT hcell hv hr h hc hg e hw hlen HI;go_wp2_with fail;go_region;go_wp2_with fail;go_meet
   case rel=>exact⟨by rw[HE.out],(HB 1).out⟩
  .have e:tokZ E word=ByteArray.empty:=by unfold tokZ;rw[iP Z]
   have HE:=Hd e;clear e ih ih2 hs hr h hc hg hw hlen HI;go_wp2_with fail;go_meet
   case rel=>exact⟨by rw[HE.out];rfl,bR _ _⟩
 obtain⟨rfl,hb⟩:=hcut;have HI1:=Hd (HI.out.ext hb);clear hb HI h bs bt bx bo bw zo hg n0 n1 n4;generalize wc=w1 at *;obtain⟨bs,bt,bx,bo,bw,zo⟩:=HI1.out.boxes hs;have hg:w1.heap[g]?=some (nodeC k word frm tx v):=keepB HI1.out.r.below hc;have n0:w1.cell? ⟨g,0,none⟩=some (.int .u8 (k:Int)):=by simp[World.cell?,hg]
 have n1:w1.cell? ⟨g,1,none⟩=some (.int .i64 word):=by simp[World.cell?,hg]
 go_upto_if 37 with(fail);go_cut [7]from 33 to 49 (λv W'=>v=.string (textZ E k word)/\Below w1.heap.size w1 W')
 case first =>
  have hN:E.N<=1000000:=hs.T.n;have HT:=Hd hs.T;have HX:=Hd (zQa E k word);have HB:∀q:Nat,Hid (Below w1.heap.size w1 (w1.drewN q)):=λq=>Hd (below_drewN (bR _ _) q)
  clear ih ih2 hr hg hlen;by_cases hk45:k=45
  .subst hk45;by_cases hx:(tokZ E word).toList=[60,45]
   .go_wp2_with fail;go_meet
    case rel=>exact⟨by rw[HX.out,iP trivial,iP (yBm hx)],bR _ _⟩
   .have hx1:=nq hx;clear hx;have hw1:IntKind.i64.wrap (word+1)=word+1:=wi64 _ (by have:=hw.1;have:=hw.2;omega);have hw2:-1000000000<=word+1/\word+1<=1000000000:=by have:=hw.1;have:=hw.2;omega
    go_upto_region 6 with(fail);go_still_tail 6,Oa;have HIv:=Hd (HI1.out.ext (bR _ _).drew);go_wp2_with fail;refine(zLc HT.out HIv.out.r (word+1) hw2).mono ?_;rintro e w2 ⟨rfl,hb⟩;have hb2:=Hd (zD (bR _ _).drew hb);clear hb;by_cases hy:(wordZ E (word+1)).toList=[60,45]
    .go_wp2_with fail;go_meet
     case rel=>exact⟨by rw[HX.out,iP trivial,iN (yBn hx1),iP (yBm hy)],hb2.out⟩
    .have hy1:=nq hy;clear hy;go_wp2_with fail;go_meet
     case rel=>exact⟨by rw[HX.out,iP trivial,iN (yBn hx1),iN (yBn hy1)],hb2.out⟩
  .have hkI:¬(k:Int)=45:=Z;go_wp2_with fail;go_meet
   case rel=>exact⟨by rw[HX.out,iN hk45],bR _ _⟩
 obtain⟨rfl,hb⟩:=hcut;have HI2:=Hd (HI1.out.ext hb);clear hb HI1 bs bt bx bo bw zo hg n0 n1;generalize wc=w2 at *;obtain⟨bs,bt,bx,bo,bw,zo⟩:=HI2.out.boxes hs;have hg:w2.heap[g]?=some (nodeC k word frm tx v):=keepB HI2.out.r.below hc;have n0:w2.cell? ⟨g,0,none⟩=some (.int .u8 (k:Int)):=by simp[World.cell?,hg]
 have n4:w2.cell? ⟨g,4,none⟩=some v:=by simp[World.cell?,hg]
 obtain⟨va,vc,hv,-,-⟩:=(Row.of_owns hr.1).2;subst hv;go_upto_region 8 with(fail);have HIv:=HI2.out.ext (bR _ _).drew;have hS0:(λX:World=>X.cell? ⟨ob,0,none⟩=some ov/\X.cell? ⟨g,0,none⟩=some (.int .u8 (k:Int))/\X.cell? ⟨g,4,none⟩=some (.slice va gs.length vc)) (World.drew w2):=⟨bo,n0,n4⟩;refine zV (S:=λX:World=>X.cell? ⟨ob,0,none⟩=some ov/\X.cell? ⟨g,0,none⟩=some (.int .u8 (k:Int))/\X.cell? ⟨g,4,none⟩=some (.slice va gs.length vc)) [14] Oa ?_;generalize World.drew w2=wd at *;obtain⟨v1,w3,hrun,bo3,zo3,blk3,hI3⟩:=HIv.part (k,(gs.length:Int),textZ E k word) (by simp at hlen;omega);obtain⟨a3,c3,hv3,-,-⟩:=(Row.of_owns hI3.row).2;subst hv3;have HRUN:=Hd hrun;have HI3:=Hd hI3;clear hrun hI3;refine tU [13,14] 0 50 hS0 ?_;refine tF 1 51 (λ_=>hS0) ?_;refine tF 2 52 (λ_=>hS0) ?_;refine tF 3 53 (λ_=>hS0) ?_;refine tU [11,14] 4 54 hS0 ?_;refine tF 5 55 (λ_=>hS0) ?_;refine tF 6 56 (λ_=>hS0) ?_;refine tF 7 57 (λ_=>hS0) ?_;refine tU [9,14] 8 58 hS0 ?_;refine tF 9 59 (λ_=>hS0) ?_;refine tF 10 60 (λ_=>hS0) ?_;refine tF 11 61 (λ_=>hS0) ?_;have hglt:g<E.w0.heap.size:=lt_of_block hc;have hlt4:=HIv.lt;have hgr:E.w0.heap.size=E.gr:=rfl;have hS2:(λX:World=>X.cell? ⟨ob,0,none⟩=some ov/\X.cell? ⟨g,0,none⟩=some (.int .u8 (k:Int))/\X.cell? ⟨g,4,none⟩=some (.slice va gs.length vc)) (wd.alloc (.cells #[.int .u8 (k:Int),.int .i64 (gs.length:Int),.string (textZ E k word)] 33)) :=
  ⟨by rw[zCb (Below.heap_alloc _ _ _ Z)];exact hS0.1,by rw[zCb (Below.heap_alloc _ _ _ Z)];exact hS0.2.1,by rw[zCb (Below.heap_alloc _ _ _ Z)];exact hS0.2.2⟩
 have hS3:(λX:World=>X.cell? ⟨ob,0,none⟩=some ov/\X.cell? ⟨g,0,none⟩=some (.int .u8 (k:Int))/\X.cell? ⟨g,4,none⟩=some (.slice va gs.length vc)) w3:=⟨bo3,by rw[zCb (blk3 g Z)];exact hS0.2.1,by rw[zCb (blk3 g Z)];exact hS0.2.2⟩;refine rU 12 (some 62) λK hK=>?_;go_simp;refine hK.out _ _ (λ_=>hS2) ?_;clear hK K;(try simp only[qA,qL,qZ,qS])
 refine rU 13 (some 63) λK hK=>?_;refine xT _ _ _ _ HRUN.out rfl rfl rfl rfl ?_;refine hK.out _ _ (λ_=>hS3) ?_;clear hK K;(try simp only[qA,qL,qZ,qS])
 refine rU 14 none λK hK=>?_;go_simp;refine hK.out _ _ (λh=>Bool.noConfusion (h.symm.trans (by kernel_rfl:_=false))) ?_;clear hK K;(try simp only[qA,qL,qZ,qS])
 refine yK Oa ?_ _;have n43:(w3.setCell ⟨ob,0,none⟩ (.slice a3 (out.length+1) c3)).cell? ⟨g,4,none⟩=some (.slice va gs.length vc):=by
  rw[zCb (heap_setCell_other _ _ _ _ (show g≠ob by omega))];exact hS3.2.2
 have HR3:Hid (∀(i:Nat)(hi:i<gs.length) W',Below E.w0.heap.size E.w0 W'->∃b off,va=some ⟨b,off,none⟩/\W'.cell? ⟨b,off+i,none⟩=some (ptrV gs[i])):=Hd (λi hi W' hb=>by
  obtain⟨-,a',cap',hv',-,-,hcell⟩:=Row.of_owns hr.1;simp only[Value.slice.injEq]at hv';obtain⟨rfl,-,-⟩:=hv';obtain⟨b,off,ha,hbl,hc⟩:=hcell Z;refine⟨b,off,ha,?_⟩;rw[hb.cell (p:=⟨b,off+i,none⟩) hbl,hc i Z];simp[ptrsV,hi])
 have HI4:Hid (TmI E sb tb xb ob wb (.slice a3 (out.length+1) c3) (out++[(k,(gs.length:Int),textZ E k word)]) (w3.setCell ⟨ob,0,none⟩ (.slice a3 (out.length+1) c3))):=Hd (by have:=HI3.out;simpa using this);clear hS0 hS2 hS3 HRUN HI3 HIv bo3 zo3 blk3 hlt4 HI2 bs bt bx bo bw zo n0 n4 hg;generalize(w3.setCell ⟨ob,0,none⟩ (.slice a3 (out.length+1) c3))=w4 at *;go_wp2_with fail;go_loopw [69] (λkv wr=>∃(i:Nat) (ov':Value),kv=.int .i64 (i:Int)/\i<=gs.length/\TmI E sb tb xb ob wb ov' (out++[(k,(gs.length:Int),textZ E k word)]++(pss.take i).flatten) wr) (λkv _=>gs.length-(intOf kv).toNat)
 case atStart=>exact⟨0,_,rfl,Nat.zero_le _,by simpa using HI4.out⟩
 case round =>
  obtain⟨i,ov',rfl,hi,hI⟩:=hrel;by_cases hlt:i<gs.length
  .have hltI:(i:Int)<gs.length:=Z;obtain⟨b,off,rfl,hcell⟩:=HR3.out i hlt wr hI.r.below;have bw:=(hI.boxes hs).2.2.2.2.1;have HC:=Hd (ih2 i hlt Z hI);have hip:i<pss.length:=Z;have HL:(out++[(k,(gs.length:Int),textZ E k word)]++(pss.take i).flatten).length+pss[i].length<=1000000:=by
    have h1:=yFg pss i hip;simp only[lA,lC,lN]at hlen ⊢;omega
   have hwi:IntKind.i64.wrap ((i:Int)+1)=(i:Int)+1:=wi64 _ Z;clear ih ih2 hr hlen HR3 HI4 hI hc hw hs;go_wp2_with fail;refine(HC.out HL).mono ?_;intro e w5 h5;unfold TmQ at h5;obtain⟨rfl,ov5,h5⟩:=h5;have HI5:=Hd h5;clear h5;go_wp2_with fail;go_roundw
   case rel=>exact⟨i+1,ov5,rfl,Z,by rw[zLf pss i hip,<-List.append_assoc];exact HI5.out⟩
   case measure=>simp only[intOf];omega
  .have HX:Hid (TmQ E sb tb xb ob wb (out++((k,(gs.length:Int),textZ E k word)::pss.flatten)) (.returned (.tuple #[])) wr):=Hd (by
    unfold TmQ;refine⟨rfl,ov',?_⟩;rw[List.take_of_length_le Z,List.append_assoc]at hI;exact hI)
   clear ih ih2 hr hlen HR3 HI4 hI hc hw hs;go_wp2_with fail;go_end0;exact HX.out
end
end Go.Proofs.YtfpjdpdmgceciaaGreatDoor
