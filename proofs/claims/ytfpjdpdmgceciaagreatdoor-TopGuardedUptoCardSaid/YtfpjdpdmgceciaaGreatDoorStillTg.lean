/- A region whose first operation is a mere move that only the last store uses, whose next operations read, and whose tail is forced: 'x.f = append(x.f, ..)'. It goes in the written order. -/
import Derived.Test.YtfpjdpdmgceciaaGreatDoorProg
import Derived.StillTailTactics
import Derived.Outline
import Derived.Test.YtfpjdpdmgceciaaGreatDoorCoreTg
import Derived.Test.YtfpjdpdmgceciaaGreatDoorQuotedTg
import Derived.Laws.DeepStrings4
namespace Go.Proofs.YtfpjdpdmgceciaaGreatDoor
set_option linter.all false
open Go
section
variable {P:Program} {ops:Array Oper} {md:Region.Mode} {w:World}
def sinkF(md:Region.Mode)(ops:Array Oper)(n sk:Nat):Bool :=
 (List.range n).all λi=>i==sk || (List.range (n+1)).any λj=>decide (i<j)&&Region.waitsFor md ops j i
theorem zGj{n sk:Nat}{listed:Array Bool}(hs:sinkF md ops n sk=true)(hc:Region.chainB md ops n=true)(hn:n<ops.size)(inv:HeadInv md ops n listed)(hsk:listed.getD sk false=true) :
  ∀(d i:Nat),n-i=d->i<n->listed.getD i true=false->∀t,n<=t->t∉Region.ready md ops listed:=by
 intro d;induction d using Nat.strongRecOn with
 |_ d ih =>
  intro i hd hi hun t ht hr;obtain⟨_,ot,hot,hall⟩:=mem_ready.1 hr;have htlt:t<ops.size:=(Array.getElem?_eq_some_iff.1 hot).1;by_cases htn:t=n
  .subst htn;have h1:=List.all_eq_true.1 hs i (List.mem_range.2 hi);simp only[Bool.or_eq_true,beq_iff_eq]at h1;rcases h1 with h1|h1
   .subst h1;rw[getD_both hun]at hsk;cases hsk
   obtain⟨j,hj,hj2⟩:=List.any_eq_true.1 h1;simp only[Bool.and_eq_true,decide_eq_true_eq]at hj2;obtain⟨oj,hoj,e,he,hb,hon⟩:=Region.waitsFor_spec hj2.2;have hjle:j<=t:=by have:=List.mem_range.1 hj;omega
   by_cases hjt:j=t
   .subst hjt;have:oj=ot:=Option.some.inj (hoj.symm.trans hot);subst this;have h2:=hall e he hb;rw[hon,getD_both hun]at h2;cases h2
   .cases hl:listed.getD j false with
    |true =>
     have h2:=inv.closed j oj hoj hl e he hb;rw[hon,getD_both hun]at h2;cases h2
    |false =>
     have hjs:j<listed.size:=by rw[inv.size];omega
     exact ih (t-j) (by omega) j rfl (by omega) (getD_in hjs hl) t (Nat.le_refl _) hr
  .have h1:=List.all_eq_true.1 hc t (List.mem_range.2 htlt);simp only[Bool.or_eq_true,decide_eq_true_eq]at h1;rcases h1 with h1|h1
   .omega
   .obtain⟨o',ho',e,he,hb,hon⟩:=Region.waitsFor_spec h1;have:o'=ot:=Option.some.inj (ho'.symm.trans hot);subst this;have h2:=hall e he hb;rw[hon,getD_both (inv.tail (t-1) (by omega) (by omega))]at h2;cases h2
theorem zKh{n sk i:Nat}{oi:Oper}{v:Value}{L:Array Bool->Act->Prop}(hi:ops[i]?=some oi)(hsel:∀(j:Nat)(o:Oper) cs b,ops[j]?=some o->o.op≠.select cs b)(hs:sinkF md ops n sk=true)(hc:Region.chainB md ops n=true)(hn:n<ops.size)(hin:i<n)(hdone:∀listed a,L listed a->∀j∈Region.ready md ops listed,n<=j) :
  ∀(f:Nat)(listed:Array Bool)(a:Act),HeadInv md ops n listed->listed.getD sk false=true->
   (∀j oj,ops[j]?=some oj->j≠i->listed.getD j true=false->(∀e∈oj.after,Region.binds md e=true->e.on≠i)->oi.apart ops oj=true)->
   i∈Region.ready md ops listed->YieldsAt P ops w oi v a->
   wpAnyL P md ops w n L f (listed.setIfInBounds i true) (a.put oi.dst v)->wpAnyL P md ops w n L (f+1) listed a:=by
 intro f;induction f with
 |zero =>
  intro listed a inv hsk _ hr hy H;have hun:=(mem_ready.1 hr).1;refine⟨λh=>(by rw[h]at hr;cases hr),λj hj=>?_⟩;have hjn:j<n:=by
   rcases Nat.lt_or_ge j n with h|h
   .exact h
   .exact absurd hj (zGj hs hc hn inv hsk _ i rfl hin hun j h)
  refine⟨hjn,?_⟩;by_cases hji:j=i
  .subst hji;exact hy.stOp hi H
  .have:=hdone _ _ H j (ready_mono hj hji);omega
 |succ f ih =>
  intro listed a inv hsk hfree hr hy H;have hun:=(mem_ready.1 hr).1;refine⟨λh=>(by rw[h]at hr;cases hr),λj hj=>?_⟩;have hjn:j<n:=by
   rcases Nat.lt_or_ge j n with h|h
   .exact h
   .exact absurd hj (zGj hs hc hn inv hsk _ i rfl hin hun j h)
  refine⟨hjn,?_⟩;by_cases hji:j=i
  .subst hji;exact hy.stOp hi H
  .have h1:=(H.2 j (ready_mono hj hji)).2;obtain⟨hjun,oj,hoj,hall⟩:=mem_ready.1 hj;have hnot:∀e∈oj.after,Region.binds md e=true->e.on≠i:=λe he hb heq=>by
    have h1:=hall e he hb;rw[heq,getD_both hun]at h1;cases h1
   have h2:=stOp_put hoj (hfree j oj hoj hji hjun hnot) (λcs b=>hsel i oi cs b hi) (λcs b=>hsel j oj cs b hoj) hy h1;have hfree':∀k ok,ops[k]?=some ok->k≠i->(listed.setIfInBounds j true).getD k true=false->
     (∀e∈ok.after,Region.binds md e=true->e.on≠i)->oi.apart ops ok=true:=λk ok hk hki hun hno=>by
    refine hfree k ok hk hki ?_ hno;by_cases hjk:j=k
    .subst hjk;exact hjun
    .rw[getD_set_ne true hjk]at hun;exact hun
   refine stOp_mono (λa' h3=>ih (listed.setIfInBounds j true) a' (inv.set hj hjn) (getD_set_true hsk) hfree' (ready_mono hr (Ne.symm hji)) h3.1 ?_) h2;rw[Array.setIfInBounds_comm _ _ hji];exact h3.2
theorem zGk{n sk g:Nat}{Lq:Act->Prop}(hsel:Region.noSelect ops=true)(hs:sinkF md ops n sk=true)(hc:Region.chainB md ops n=true)(hn:n<ops.size) :
  ∀(l:List Oper)(k:Nat)(listed:Array Bool)(a:Act),(∀j,j<l.length->l[j]?=ops[k+j]?)->k+l.length=n->HeadInv md ops n listed->listed.getD sk false=true->
  Region.lexHead md ops g l.length k listed=true->wpStill P ops w Lq l a->
  wpAnyL P md ops w n (λlisted' a'=>Region.seqB md ops g n listed'=true/\Lq a') l.length listed a
 |[],k,listed,a,_,hk,_,_,hB,h=>by
  have:k=n:=by simpa using hk
  subst this;exact⟨by simpa[Region.lexHead]using hB,h⟩
 |o::l,k,listed,a,hl,hk,inv,hsk,hB,h=>by
  have h0:ops[k]?=some o:=by simpa using(hl 0 (by simp)).symm
  simp only[List.length_cons,Region.lexHead,Bool.and_eq_true]at hB;obtain⟨⟨hr,hf⟩,hB'⟩:=hB;have hkn:k<n:=by simp only[List.length_cons]at hk;omega
  have hr':k∈Region.ready md ops listed:=by simpa using hr
  have hst:stOp P ops w k (wpStill P ops w Lq l) a:=by unfold stOp;simp only[h0];exact h
  obtain⟨v,hy,hK⟩:=yieldsAt_of_stOp h0 hst;exact zKh h0 (Region.noSelect_spec hsel) hs hc hn hkn (λlisted' a' hL=>seqB_ready hL.1) l.length listed a inv hsk (Region.free_spec h0 hf) hr' hy
   (zGk hsel hs hc hn l (k+1) _ _ (λj hj=>by have:=hl (j+1) (by simp;omega);simpa[Nat.add_assoc,Nat.add_comm 1 j]using this) (by simp only[List.length_cons]at hk;omega) (inv.set hr' hkn) (getD_set_true hsk) hB' hK)
def lexTailF(md:Region.Mode)(ops:Array Oper)(n:Nat):Bool :=
 Region.noSelect ops&&(decide (n+1<ops.size)&&(sinkF md ops (n+1) 0&&(Region.chainB md ops (n+1)&&((Region.ready md ops (Array.replicate ops.size false)).contains 0&&(Region.free md ops (Array.replicate ops.size false) 0 &&
  Region.lexHead md ops (ops.size-(n+1)) n 1 ((Array.replicate ops.size false).setIfInBounds 0 true))))))
theorem yU{id:Nat}{Q:Exit->Act->World->Prop}{a:Act}{w:World}{o0:Oper}{l:List Oper}(n:Nat)(v:Value)(hm:P.follows .mixedOrders=true)(hB:lexTailF .any (o0::l).toArray n=true)(hQ:∀c a w,Q (.panic c) (a.put o0.dst v) w->Q (.panic c) a w)(hy:Yields P (o0::l).toArray o0 v a)(h:wpStill P (o0::l).toArray { w with drawn:=w.drawn+1 } (λa'=>wpList P (o0::l).toArray Q (l.drop n) a' { w with drawn:=w.drawn+1 }) (l.take n) (a.put o0.dst v)):(Code.region id (o0::l).toArray true).wp P Q a w:=by
 simp only[lexTailF,Bool.and_eq_true,decide_eq_true_eq]at hB;obtain⟨hsel,hn,hs,hc,hr0,hf0,hlex⟩:=hB;have hn':n+1<l.length+1:=by simpa using hn
 have htl:(l.take n).length=n:=by simp;omega
 have hdl:(l.drop n).length=(o0::l).toArray.size-(n+1):=by simp
 have inv0:HeadInv .any (o0::l).toArray (n+1) (Array.replicate (o0::l).toArray.size false) :=
  ⟨by simp,λj oj _ hl=>(by rw[getD_replicate_false]at hl;cases hl),λt _ ht=>getD_in (by simpa using ht) (getD_replicate_false _ _)⟩
 have hr0':0∈Region.ready .any (o0::l).toArray (Array.replicate (o0::l).toArray.size false):=by simpa using hr0
 have inv1:=inv0.set hr0' (Nat.succ_pos n);have hsk:((Array.replicate (o0::l).toArray.size false).setIfInBounds 0 true).getD 0 false=true:=by simp
 have H:=zGk (md:=.any) (sk:=0) (g:=(o0::l).toArray.size-(n+1)) hsel hs hc hn (l.take n) 1 _ (a.put o0.dst v) (λj hj=>by
  have hj':j<n:=by rw[htl]at hj;exact hj
  rw[Nat.add_comm 1 j];simp[hj']) (by omega) inv1 hsk (by rw[htl];exact hlex) h
 refine wp_region_any hm ?_;have h2:=wpAny_of_head (Q':=Q) (g:=(o0::l).toArray.size-(n+1)) (λlisted a' hL=>by
  have h3:=wpAny_of_seq (md:=.any) (Q':=Q) (l.drop n) (n+1) listed a' { w with drawn:=w.drawn+1 } (λj=>by simp[List.getElem?_drop,Nat.add_right_comm]) (by rw[hdl];exact hL.1) hL.2
  rwa [hdl]at h3) _ _ _ H
 rw[htl]at h2;have h4:=wpAny_take (i:=0) (oi:=o0) (v:=v) (Q:=Q) (by simp) hsel hf0 hr0 hQ hy h2;rw[show n+((o0::l).toArray.size-(n+1))+1=(o0::l).toArray.size by omega]at h4;exact h4
end
end Go.Proofs.YtfpjdpdmgceciaaGreatDoor
namespace Go.Proofs.YtfpjdpdmgceciaaGreatDoor
set_option maxRecDepth 100000
set_option maxHeartbeats 32000000
set_option linter.all false
open Go.RowKit
attribute [local irreducible] wpStill
theorem xO{P:Program}{ops:Array Oper}{o:Oper}{rest:List Oper}{a:Act}{w:World}{Q:Exit->Act->World->Prop}(hgd:o.guard=none)(sl x:Operand)(t u:TypeId)(ho:o.op=.call { callee:=.builtin .append,args:=#[sl,x],argTypes:=#[t,u] })(base:Nat)(e:TypeId)(ht:P.underlying t=some (.slice e))(hu:P.underlying u=some .string)(hinfo:(P.info? e).map (λi=>(i.zero,i.size,i.bytes))=some (some (.int .u8 0),1,1))(v:Value)(n:Nat)(xs:List Value)(hs:a.eval sl=v)(hown:w.ownsRow base e 1 v n xs)(s:ByteArray)(hx:a.eval x=.string s)(hbytes:n+s.size<=140737488355328)(hbase:base<=w.heap.size)(h:∀v' w',w'.ownsRow base e 1 v' (n+s.size) (xs++Lib.strCells s)->w.grownBy w' v.ownBlock->wpList P ops Q rest (a.put o.dst v') w') :
  wpList P ops Q (o::rest) a w:=by
 have hw:Region.wanted o (yielded ops a.tmps)=true:=by simp[Region.wanted,hgd]
 have h1:=jS (K:=wpList P ops Q rest) (Q:=Q) (E:=True) (ops:=ops) hgd sl x t u ho base e ht hu hinfo v n xs hs hown s hx hbytes hbase h;rw[iP hw]at h1;unfold wpList;rw[iP hw];exact Or.inl h1
theorem RS.grew_blk{w w1 w':World}{b:Nat}{s:ByteArray}{i mark:Int}{l:List Int}{bad:Bool}(h:RS w b s i mark l bad)(hb:Below w.heap.size w w1){out:Value}(hc:w.cell? ⟨b,3,none⟩=some out)(hg:w1.grownBy w' out.ownBlock)(k:Nat):w'.cell? ⟨b,k,none⟩=w.cell? ⟨b,k,none⟩:=by
 have hlt:=h.lt;obtain⟨ht,h1,h2,out0,hh,ho0⟩:=h;obtain rfl:out0=out:=by
  have:w.cell? ⟨b,3,none⟩=some out0:=by simp[World.cell?,hh]
  rw[this]at hc;exact Option.some.inj hc
 have hsz:=hb.size;have hblk:w'.heap[b]?=w.heap[b]?:=by
  rw[hg.block b Z ?_,hb.block b Z];intro e;have:=(ho0.lt b e.symm).1;omega
 exact World.cell?_of_block hblk
theorem RS.grew_fz{w w1 w':World}{b:Nat}{s:ByteArray}{i mark:Int}{l:List Int}{bad:Bool}(h:RS w b s i mark l bad)(hb:Below w.heap.size w w1){out:Value}(hc:w.cell? ⟨b,3,none⟩=some out)(hg:w1.grownBy w' out.ownBlock)(k:Nat):w'.frozen? ⟨b,k,none⟩=false:=by
 have hlt:=h.lt;have hz:=h.fz k;obtain⟨ht,h1,h2,out0,hh,ho0⟩:=h;obtain rfl:out0=out:=by
  have:w.cell? ⟨b,3,none⟩=some out0:=by simp[World.cell?,hh]
  rw[this]at hc;exact Option.some.inj hc
 have hsz:=hb.size;have hblk:w'.heap[b]?=w.heap[b]?:=by
  rw[hg.block b Z ?_,hb.block b Z];intro e;have:=(ho0.lt b e.symm).1;omega
 rw[World.frozen?_of_block hblk];exact hz
theorem RS.puts{w w0 w':World}{b:Nat}{s t:ByteArray}{i mark:Int}{l:List Int}{bad:Bool}(h:RS w b s i mark l bad)(h0:Below b w0 w){out out':Value}(hc:w.cell? ⟨b,3,none⟩=some out)(hg:w.grownBy w' out.ownBlock)(hown:w'.ownsRow (b+1) 5 1 out' (l.length+t.size) (l.map (Value.int .u8)++Lib.strCells t)) :
  RS (w'.setCell ⟨b,3,none⟩ out') b s i mark (l++nums t) bad/\Below b w0 (w'.setCell ⟨b,3,none⟩ out') :=
 ⟨h.grew (bR _ _) hc hg (by rw[lA,zBo]) (by rw[zCr,List.map_append]) hown,h.grew_below h0 (bR _ _) hc hg⟩
@[irreducible] def xB(s:ByteArray)(b i mark:Nat)(l:List Int)(w0:World)(e:Ending)(w':World):Prop :=
 Below b w0 w'/\e=.returned (.tuple #[])/\match item s i mark with
  |some (n,x)=>RS w' b s (i+n:Nat) mark (l++x) false
  |none=>∃j l',RS w' b s j mark l' true
def yQ(s:ByteArray)(i mark:Nat):Nat:=if mark=39 then(rd s i).2 else 1
theorem zIi{s:ByteArray}{i mark:Nat}(hmark:mark=34\/mark=39)(hi:i<s.size)(h92:bt s i≠92)(h:(decide (yQ s i mark=0) || decide (bt s i=10))=false) :
  item s i mark=some (yQ s i mark,nums (s.extract i (i+yQ s i mark))):=by
 simp at h;unfold item;rw[iN h92,iN h.2];unfold yQ at h ⊢;rcases hmark with rfl|rfl
 .simp;rw[show([(bt s i:Int)]:List Int)=nums (s.extract i (i+1))from ?_];have hz:(s.extract i (i+1)).data.toList=[s.get! i]:=by
   have:=zEn s i 1 Z;rw[ByteArray.toList_eq]at this;rw[this];rfl
  unfold nums;rw[hz];rfl
 .simp at h ⊢;intro h0;exact absurd h0 h.1
theorem zIj{s:ByteArray}{i mark:Nat}(hmark:mark=34\/mark=39)(h92:bt s i≠92)(h:(decide (yQ s i mark=0) || decide (bt s i=10))=true):item s i mark=none:=by
 simp at h;unfold item;rw[iN h92];by_cases h10:bt s i=10
 .rw[iP h10]
 .rw[iN h10];rcases h with h|h
  .unfold yQ at h;rcases hmark with rfl|rfl
   .simp at h
   .simp at h ⊢;exact h
  .exact absurd h h10
theorem zGa{s:ByteArray}{i mark:Nat}(hi:i<s.size):i+yQ s i mark<=s.size:=by
 unfold yQ;have:=xH s i;split<;>omega
theorem zIk(s:ByteArray)(b i:Nat)(l:List Int)(w0:World)(hR:RS w0 b s (i:Nat) 34 l false)(hi:i<s.size)(h92:bt s i≠92)(hs:s.size<=140737488351232)(hl:l.length<=i) :
  Calls Tryz.prog 203 #[.pointer (some ⟨b,0,none⟩)] w0 (xB s b i 34 l w0):=by
 have hle:=zGa (mark:=34) hi;have HQ:Hid (∀w',Below b w0 w'->(decide (yQ s i 34=0) || decide (bt s i=10))=false->RS w' b s (i+yQ s i 34:Nat) 34 (l++nums (s.extract i (i+yQ s i 34))) false->xB s b i 34 l w0 (.returned (.tuple #[])) w') :=
  Hd λw' h1 h2 h3=>by
   unfold xB;refine⟨h1,rfl,?_⟩;rw[zIi (Or.inl rfl) hi h92 h2];exact h3
 have HQ2:Hid (∀w' j l',Below b w0 w'->(decide (yQ s i 34=0) || decide (bt s i=10))=true->RS w' b s j 34 l' true->xB s b i 34 l w0 (.returned (.tuple #[])) w') :=
  Hd λw' j l' h1 h2 h3=>by
   unfold xB;refine⟨h1,rfl,?_⟩;rw[zIj (Or.inl rfl) h92 h2];exact⟨j,l',h3⟩
 generalize xB s b i 34 l w0=Q at *;have CR:=Hd (λw hT=>gV s i w hT);have hbt:=zL s i hi;have HR:=Hd hR;have c2:=hR.c2;clear hR;have HHB:=Hd hbt;generalize bt s i=c at *;have hi':(i:Int)<s.size:=Z;have hn:yQ s i 34=1:=by unfold yQ;rw[iN Z]
 rw[hn]at HQ HQ2 hle;have c0:=HR.out.c0;have c1:=HR.out.c1;have c4:=HR.out.c4;have z4:=HR.out.fz 4;go_enter Tryz.func203,Tryz.ntmps203;go_wp2_with fail;by_cases g1:c=10
 .have g1':(c:Int)=10:=Z;go_still_tail 21,Oa;change wpList _ _ _ _ _ w0.drew;have HR2:=Hd (HR.out.bad' true).drew;have HB2:=Hd (((bR b w0).setCell (p:=⟨b,4,none⟩) (nR b) (.bool true)).drew);go_wp2_with fail;generalize(w0.setCell ⟨b,4,none⟩ (.bool true)).drew=w2 at *;have hr2:=HR2.out;obtain⟨out,c3,ho⟩:=hr2.c3;have z3:=hr2.fz 3;have c0d:w2.drew.cell? ⟨b,0,none⟩=some (.string s):=hr2.c0;have c1d:w2.drew.cell? ⟨b,1,none⟩=some (.int .i64 i):=hr2.c1;have c3d:w2.drew.cell? ⟨b,3,none⟩=some out:=c3;have c0:=hr2.c0;have c1:=hr2.c1;have HR3:=Hd hr2.drew;have HO3:Hid (w2.drew.ownsRow (b+1) 5 1 out l.length (l.map (Value.int .u8))):=ho;have hbase:b+1<=w2.drew.heap.size:=HR3.out.lt;have hsz:(s.extract i (i+1)).size=1:=by simp;omega
  have hsum:(i:Int)+1<=s.size:=Z;have hsum0:(0:Int)<=i:=Z;have hsum3:(0:Int)<=(i:Int)+1:=Z;have hsum4:(0:Int)<=(i:Int)+1/\(i:Int)+1<=s.size:=⟨hsum3,hsum⟩;have hsum5:(0:Int)<=(i:Int)/\(i:Int)<=(i:Int)+1:=⟨hsum0,Z⟩;have hsum1:(i:Int)<=(i:Int)+1:=Z;have hsum2:((i:Int)+1).toNat=i+1:=Z;have hslice:∀w,(Instr.slice 9 (.string s) (some (.int .i64 (i:Int))) (some (.int .i64 ((i:Int)+1))) none).run Tryz.prog w=.ok (.string (s.extract i (i+1))) w:=λw=>by
   rw[run_slice_string_if w _ s _ _ _ _ Tryz.underlying9,iP hsum4,iP hsum5,Int.toNat_natCast,hsum2]
  have hwr:IntKind.i64.wrap ((i:Int)+1)=(i:Int)+1:=wI Z;have HB3:=Hd HB2.out.drew;clear hr2 ho;refine yU 19 (.pointer (some ⟨b,0,none⟩)) Oa Oa (λ_ _ _ h=>h) (Or.inl ⟨by rfl,by intro w;go_simp⟩) ?_;simp only[List.take_succ_cons,List.take_zero,List.drop_succ_cons,List.drop_zero];repeat still_step
  try refine wpStill_nil ?_
  change wpList _ _ _ _ _ w2.drew;refine xO rfl _ _ 92 9 rfl (b+1) 5 Tryz.underlying92 Tryz.underlying9 vX out l.length (l.map (Value.int .u8)) rfl HO3.out (s.extract i (i+1)) rfl Z hbase ?_;intro v' w4 hown hgr;obtain⟨c3',z3'⟩:=HR3.out.grew_cell (bR _ _) c3d hgr;obtain⟨va,vm,vc,rfl⟩:=zI hown;have c14:=(HR3.out.grew_blk (bR _ _) c3d hgr 1).trans c1d;have z14:=HR3.out.grew_fz (bR _ _) c3d hgr 1;obtain⟨hr5,hb5⟩:=HR3.out.puts HB3.out c3d hgr hown;have HR5:=Hd hr5;have HB5:=Hd hb5;clear hr5 hb5;go_wp2_with fail;refine bodyPost_end (results_none rfl _ _ _) rfl ?_;exact HQ2.out _ _ _ (HB5.out.setCell (by exact nR b) _) (by simp[g1]) (HR5.out.at' _)
 .have g1':¬(c:Int)=10:=Z;have g1b:((c:Int)==10)=false:=by rw[bE];exact g1'
  go_still_tail 21,Oa;change wpList _ _ _ _ _ w0.drew;have HR2:=Hd (HR.out.bad' false).drew;have HB2:=Hd (((bR b w0).setCell (p:=⟨b,4,none⟩) (nR b) (.bool false)).drew);go_wp2_with fail;generalize(w0.setCell ⟨b,4,none⟩ (.bool false)).drew=w2 at *;have hr2:=HR2.out;obtain⟨out,c3,ho⟩:=hr2.c3;have z3:=hr2.fz 3;have c0d:w2.drew.cell? ⟨b,0,none⟩=some (.string s):=hr2.c0;have c1d:w2.drew.cell? ⟨b,1,none⟩=some (.int .i64 i):=hr2.c1;have c3d:w2.drew.cell? ⟨b,3,none⟩=some out:=c3;have c0:=hr2.c0;have c1:=hr2.c1;have HR3:=Hd hr2.drew;have HO3:Hid (w2.drew.ownsRow (b+1) 5 1 out l.length (l.map (Value.int .u8))):=ho;have hbase:b+1<=w2.drew.heap.size:=HR3.out.lt;have hsz:(s.extract i (i+1)).size=1:=by simp;omega
  have hsum:(i:Int)+1<=s.size:=Z;have hsum0:(0:Int)<=i:=Z;have hsum3:(0:Int)<=(i:Int)+1:=Z;have hsum4:(0:Int)<=(i:Int)+1/\(i:Int)+1<=s.size:=⟨hsum3,hsum⟩;have hsum5:(0:Int)<=(i:Int)/\(i:Int)<=(i:Int)+1:=⟨hsum0,Z⟩;have hsum1:(i:Int)<=(i:Int)+1:=Z;have hsum2:((i:Int)+1).toNat=i+1:=Z;have hslice:∀w,(Instr.slice 9 (.string s) (some (.int .i64 (i:Int))) (some (.int .i64 ((i:Int)+1))) none).run Tryz.prog w=.ok (.string (s.extract i (i+1))) w:=λw=>by
   rw[run_slice_string_if w _ s _ _ _ _ Tryz.underlying9,iP hsum4,iP hsum5,Int.toNat_natCast,hsum2]
  have hwr:IntKind.i64.wrap ((i:Int)+1)=(i:Int)+1:=wI Z;have HB3:=Hd HB2.out.drew;clear hr2 ho;refine yU 19 (.pointer (some ⟨b,0,none⟩)) Oa Oa (λ_ _ _ h=>h) (Or.inl ⟨by rfl,by intro w;go_simp⟩) ?_;simp only[List.take_succ_cons,List.take_zero,List.drop_succ_cons,List.drop_zero];repeat still_step
  try refine wpStill_nil ?_
  change wpList _ _ _ _ _ w2.drew;refine xO rfl _ _ 92 9 rfl (b+1) 5 Tryz.underlying92 Tryz.underlying9 vX out l.length (l.map (Value.int .u8)) rfl HO3.out (s.extract i (i+1)) rfl Z hbase ?_;intro v' w4 hown hgr;obtain⟨c3',z3'⟩:=HR3.out.grew_cell (bR _ _) c3d hgr;obtain⟨va,vm,vc,rfl⟩:=zI hown;have c14:=(HR3.out.grew_blk (bR _ _) c3d hgr 1).trans c1d;have z14:=HR3.out.grew_fz (bR _ _) c3d hgr 1;obtain⟨hr5,hb5⟩:=HR3.out.puts HB3.out c3d hgr hown;have HR5:=Hd hr5;have HB5:=Hd hb5;clear hr5 hb5;go_wp2_with fail;refine bodyPost_end (results_none rfl _ _ _) rfl ?_;refine HQ.out _ (HB5.out.setCell (by exact nR b) _) (by simp[g1]) ?_;have:=HR5.out.at' ((i+1:Nat):Int);exact this
theorem zIl(s:ByteArray)(b i:Nat)(l:List Int)(w0:World)(hR:RS w0 b s (i:Nat) 39 l false)(hi:i<s.size)(h92:bt s i≠92)(hs:s.size<=140737488351232)(hl:l.length<=i) :
  Calls Tryz.prog 203 #[.pointer (some ⟨b,0,none⟩)] w0 (xB s b i 39 l w0):=by
 have hle:=zGa (mark:=39) hi;have HQ:Hid (∀w',Below b w0 w'->(decide (yQ s i 39=0) || decide (bt s i=10))=false->RS w' b s (i+yQ s i 39:Nat) 39 (l++nums (s.extract i (i+yQ s i 39))) false->xB s b i 39 l w0 (.returned (.tuple #[])) w') :=
  Hd λw' h1 h2 h3=>by
   unfold xB;refine⟨h1,rfl,?_⟩;rw[zIi (Or.inr rfl) hi h92 h2];exact h3
 have HQ2:Hid (∀w' j l',Below b w0 w'->(decide (yQ s i 39=0) || decide (bt s i=10))=true->RS w' b s j 39 l' true->xB s b i 39 l w0 (.returned (.tuple #[])) w') :=
  Hd λw' j l' h1 h2 h3=>by
   unfold xB;refine⟨h1,rfl,?_⟩;rw[zIj (Or.inr rfl) h92 h2];exact⟨j,l',h3⟩
 generalize xB s b i 39 l w0=Q at *;have CR:=Hd (λw hT=>gV s i w hT);have hbt:=zL s i hi;have HR:=Hd hR;have c2:=hR.c2;clear hR;have HHB:=Hd hbt;generalize bt s i=c at *;have hi':(i:Int)<s.size:=Z;have hn:yQ s i 39=(rd s i).2:=by unfold yQ;rw[iP rfl]
 rw[hn]at HQ HQ2 hle;have c0:=HR.out.c0;have c1:=HR.out.c1;have hrd:=yF s i;go_enter Tryz.func203,Tryz.ntmps203;go_wp2_with fail
 go_region_law (first|(go_simp;go_at_call 160;refine(CR.out _ HR.out.drew.tabs).mono ?_;rintro e w1 ⟨rfl,hb1⟩))
 all_goals (
  have HR1:=Hd (HR.out.drew.below hb1);have HB1:=Hd ((bR b w0).drew.trans (hb1.mono (Nat.le_of_lt HR.out.drew.lt)));have hrl:=xH s i;clear CR HR hrd;generalize(rd s i).2=n at *;generalize(rd s i).1=r at *;have hwr:IntKind.i64.wrap ((i:Int)+n)=(i:Int)+n:=wI Z;have hsz:(s.extract i (i+n)).size=n:=by simp;omega
  have hsum:(i:Int)+n<=s.size:=Z;have hsum0:(0:Int)<=i:=Z;have hsum3:(0:Int)<=(i:Int)+n:=Z;have hsum4:(0:Int)<=(i:Int)+n/\(i:Int)+n<=s.size:=⟨hsum3,hsum⟩;have hsum5:(0:Int)<=(i:Int)/\(i:Int)<=(i:Int)+n:=⟨hsum0,Z⟩;have hsum1:(i:Int)<=(i:Int)+n:=Z;have hsum2:((i:Int)+n).toNat=i+n:=Z;have hslice:∀w,(Instr.slice 9 (.string s) (some (.int .i64 (i:Int))) (some (.int .i64 ((i:Int)+n))) none).run Tryz.prog w=.ok (.string (s.extract i (i+n))) w:=λw=>by
   rw[run_slice_string_if w _ s _ _ _ _ Tryz.underlying9,iP hsum4,iP hsum5,Int.toNat_natCast,hsum2]
  have c0:=HR1.out.c0;have c1:=HR1.out.c1;have c4:=HR1.out.c4;have z4:=HR1.out.fz 4;go_wp2_with fail;by_cases g0:n=0
  .have g0b:((n:Int)==0)=true:=by rw[beq_iff_eq];omega
   have G0:=Hd g0;clear g0;go_still_tail 21,Oa;change wpList _ _ _ _ _ w1.drew;have HR2:=Hd (HR1.out.bad' true).drew;have HB2:=Hd ((HB1.out.setCell (p:=⟨b,4,none⟩) (nR b) (.bool true)).drew);go_wp2_with fail;generalize(w1.setCell ⟨b,4,none⟩ (.bool true)).drew=w2 at *;have hr2:=HR2.out;obtain⟨out,c3,ho⟩:=hr2.c3;have z3:=hr2.fz 3;have c0d:w2.drew.cell? ⟨b,0,none⟩=some (.string s):=hr2.c0;have c1d:w2.drew.cell? ⟨b,1,none⟩=some (.int .i64 i):=hr2.c1;have c3d:w2.drew.cell? ⟨b,3,none⟩=some out:=c3;have c0:=hr2.c0;have c1:=hr2.c1;have HR3:=Hd hr2.drew;have HO3:Hid (w2.drew.ownsRow (b+1) 5 1 out l.length (l.map (Value.int .u8))):=ho;have hbase:b+1<=w2.drew.heap.size:=HR3.out.lt;have HB3:=Hd HB2.out.drew;clear hr2 ho;refine yU 19 (.pointer (some ⟨b,0,none⟩)) Oa Oa (λ_ _ _ h=>h) (Or.inl ⟨by rfl,by intro w;go_simp⟩) ?_;simp only[List.take_succ_cons,List.take_zero,List.drop_succ_cons,List.drop_zero];repeat still_step
   try refine wpStill_nil ?_
   change wpList _ _ _ _ _ w2.drew;refine xO rfl _ _ 92 9 rfl (b+1) 5 Tryz.underlying92 Tryz.underlying9 vX out l.length (l.map (Value.int .u8)) rfl HO3.out (s.extract i (i+n)) rfl Z hbase ?_;intro v' w4 hown hgr;obtain⟨c3',z3'⟩:=HR3.out.grew_cell (bR _ _) c3d hgr;obtain⟨va,vm,vc,rfl⟩:=zI hown;have c14:=(HR3.out.grew_blk (bR _ _) c3d hgr 1).trans c1d;have z14:=HR3.out.grew_fz (bR _ _) c3d hgr 1;rw[hsz]at hown;obtain⟨hr5,hb5⟩:=HR3.out.puts HB3.out c3d hgr (by rw[hsz];exact hown);have HR5:=Hd hr5;have HB5:=Hd hb5;clear hr5 hb5;go_wp2_with fail;refine bodyPost_end (results_none rfl _ _ _) rfl ?_;exact HQ2.out _ _ _ (HB5.out.setCell (by exact nR b) _) (by simp[G0.out]) (HR5.out.at' _)
  .have g0':¬(n:Int)=0:=Z;have g0b:((n:Int)==0)=false:=by rw[bE];exact g0'
   by_cases g1:c=10
   .have g1':(c:Int)=10:=Z;have g1b:((c:Int)==10)=true:=by rw[beq_iff_eq];exact g1'
    go_still_tail 21,Oa;change wpList _ _ _ _ _ w1.drew;have HR2:=Hd (HR1.out.bad' true).drew;have HB2:=Hd ((HB1.out.setCell (p:=⟨b,4,none⟩) (nR b) (.bool true)).drew);go_wp2_with fail;generalize(w1.setCell ⟨b,4,none⟩ (.bool true)).drew=w2 at *;have hr2:=HR2.out;obtain⟨out,c3,ho⟩:=hr2.c3;have z3:=hr2.fz 3;have c0d:w2.drew.cell? ⟨b,0,none⟩=some (.string s):=hr2.c0;have c1d:w2.drew.cell? ⟨b,1,none⟩=some (.int .i64 i):=hr2.c1;have c3d:w2.drew.cell? ⟨b,3,none⟩=some out:=c3;have c0:=hr2.c0;have c1:=hr2.c1;have HR3:=Hd hr2.drew;have HO3:Hid (w2.drew.ownsRow (b+1) 5 1 out l.length (l.map (Value.int .u8))):=ho;have hbase:b+1<=w2.drew.heap.size:=HR3.out.lt;have HB3:=Hd HB2.out.drew;clear hr2 ho;refine yU 19 (.pointer (some ⟨b,0,none⟩)) Oa Oa (λ_ _ _ h=>h) (Or.inl ⟨by rfl,by intro w;go_simp⟩) ?_;simp only[List.take_succ_cons,List.take_zero,List.drop_succ_cons,List.drop_zero];repeat still_step
    try refine wpStill_nil ?_
    change wpList _ _ _ _ _ w2.drew;refine xO rfl _ _ 92 9 rfl (b+1) 5 Tryz.underlying92 Tryz.underlying9 vX out l.length (l.map (Value.int .u8)) rfl HO3.out (s.extract i (i+n)) rfl Z hbase ?_;intro v' w4 hown hgr;obtain⟨c3',z3'⟩:=HR3.out.grew_cell (bR _ _) c3d hgr;obtain⟨va,vm,vc,rfl⟩:=zI hown;have c14:=(HR3.out.grew_blk (bR _ _) c3d hgr 1).trans c1d;have z14:=HR3.out.grew_fz (bR _ _) c3d hgr 1;rw[hsz]at hown;obtain⟨hr5,hb5⟩:=HR3.out.puts HB3.out c3d hgr (by rw[hsz];exact hown);have HR5:=Hd hr5;have HB5:=Hd hb5;clear hr5 hb5;go_wp2_with fail;refine bodyPost_end (results_none rfl _ _ _) rfl ?_;exact HQ2.out _ _ _ (HB5.out.setCell (by exact nR b) _) (by simp[g1]) (HR5.out.at' _)
   .have g1':¬(c:Int)=10:=Z;have g1b:((c:Int)==10)=false:=by rw[bE];exact g1'
    go_still_tail 21,Oa;change wpList _ _ _ _ _ w1.drew;have HR2:=Hd (HR1.out.bad' false).drew;have HB2:=Hd ((HB1.out.setCell (p:=⟨b,4,none⟩) (nR b) (.bool false)).drew);go_wp2_with fail;generalize(w1.setCell ⟨b,4,none⟩ (.bool false)).drew=w2 at *;have hr2:=HR2.out;obtain⟨out,c3,ho⟩:=hr2.c3;have z3:=hr2.fz 3;have c0d:w2.drew.cell? ⟨b,0,none⟩=some (.string s):=hr2.c0;have c1d:w2.drew.cell? ⟨b,1,none⟩=some (.int .i64 i):=hr2.c1;have c3d:w2.drew.cell? ⟨b,3,none⟩=some out:=c3;have c0:=hr2.c0;have c1:=hr2.c1;have HR3:=Hd hr2.drew;have HO3:Hid (w2.drew.ownsRow (b+1) 5 1 out l.length (l.map (Value.int .u8))):=ho;have hbase:b+1<=w2.drew.heap.size:=HR3.out.lt;have HB3:=Hd HB2.out.drew;clear hr2 ho;refine yU 19 (.pointer (some ⟨b,0,none⟩)) Oa Oa (λ_ _ _ h=>h) (Or.inl ⟨by rfl,by intro w;go_simp⟩) ?_;simp only[List.take_succ_cons,List.take_zero,List.drop_succ_cons,List.drop_zero];repeat still_step
    try refine wpStill_nil ?_
    change wpList _ _ _ _ _ w2.drew;refine xO rfl _ _ 92 9 rfl (b+1) 5 Tryz.underlying92 Tryz.underlying9 vX out l.length (l.map (Value.int .u8)) rfl HO3.out (s.extract i (i+n)) rfl Z hbase ?_;intro v' w4 hown hgr;obtain⟨c3',z3'⟩:=HR3.out.grew_cell (bR _ _) c3d hgr;obtain⟨va,vm,vc,rfl⟩:=zI hown;have c14:=(HR3.out.grew_blk (bR _ _) c3d hgr 1).trans c1d;have z14:=HR3.out.grew_fz (bR _ _) c3d hgr 1;rw[hsz]at hown;obtain⟨hr5,hb5⟩:=HR3.out.puts HB3.out c3d hgr (by rw[hsz];exact hown);have HR5:=Hd hr5;have HB5:=Hd hb5;clear hr5 hb5;go_wp2_with fail;refine bodyPost_end (results_none rfl _ _ _) rfl ?_;refine HQ.out _ (HB5.out.setCell (by exact nR b) _) (by simp[g0,g1]) ?_;have:=HR5.out.at' ((i+n:Nat):Int);exact this
 )
theorem zNg(s:ByteArray)(b i mark:Nat)(hmark:mark=34\/mark=39)(l:List Int)(w0:World)(hR:RS w0 b s (i:Nat) mark l false)(hi:i<s.size)(h92:bt s i≠92)(hs:s.size<=140737488351232)(hl:l.length<=i) :
  Calls Tryz.prog 203 #[.pointer (some ⟨b,0,none⟩)] w0 (xB s b i mark l w0):=by
 rcases hmark with rfl|rfl
 .exact zIk s b i l w0 hR hi h92 hs hl
 .exact zIl s b i l w0 hR hi h92 hs hl
def xY(s:ByteArray)(mark i k:Nat):Option (Nat×List Int) :=
 if mark=34 then body s i else if k=0 then single s i else if i<s.size/\bt s i=39 then some (i+1,[])else none
theorem zXh{s:ByteArray}{mark i k:Nat}(h:¬i<s.size):xY s mark i k=none:=by
 unfold xY;split
 .unfold body;rw[dif_neg h]
 .split
  .unfold single;rw[iN h]
  .rw[iN (λhh=>h hh.1)]
theorem zNh{s:ByteArray}{i k:Nat}(h:i<s.size)(hc:bt s i=34):xY s 34 i k=some (i+1,[]):=by
 unfold xY;rw[iP rfl];unfold body;rw[dif_pos h,iP hc]
theorem zNi{s:ByteArray}{i:Nat}(h:i<s.size)(hc:bt s i=39):xY s 39 i 0=none/\xY s 39 i 1=some (i+1,[]):=by
 unfold xY single;simp[h,hc]
theorem zXi{s:ByteArray}{i:Nat}(hc:bt s i≠39):xY s 39 i 1=none:=by
 unfold xY;simp[hc]
theorem zIm{s:ByteArray}{mark i k:Nat}(hmark:mark=34\/mark=39/\k=0)(h:i<s.size)(hc:bt s i≠mark) :
  xY s mark i k=(item s i mark).bind λq=>(xY s mark (i+q.1) (k+1)).map λp=>(p.1,q.2++p.2):=by
 rcases hmark with rfl|⟨rfl,rfl⟩
 .unfold xY;simp only[if_true];rw[body,dif_pos h,iN hc];cases hi:item s i 34 with
  |none=>simp
  |some q=>simp
 .unfold xY;simp only[show ¬(39=34)by omega,if_false,if_true];unfold single;rw[iP h,iN hc];cases hi:item s i 39 with
  |none=>simp
  |some q =>
   simp
theorem zLi(n:Int)(mark:Nat):(small n mark).length<=4:=by
 unfold small;split
 .simp
 .exact zEy n
theorem yFm{s:ByteArray}{i mark n:Nat}{l:List Int}(h:esc s i mark=some (n,l)):l.length<=n:=by
 unfold esc at h;split at h
 .cases h
 .split at h
  .cases h;simp
  .split at h
   .cases h;simp
   .split at h
    .cases hn:num s 16 (i+2) 2 0 with
     |none=>rw[hn]at h;cases h
     |some v=>rw[hn]at h;cases h;exact zLi v mark
    .split at h
     .cases hn:num s 16 (i+2) (if bt s (i+1)=85 then 8 else 4) 0 with
      |none=>rw[hn]at h;cases h
      |some v =>
       rw[hn]at h;simp only[Option.bind_some]at h;split at h
       .cases h;have:=zEy v;split<;>omega
       .cases h
     .cases hn:num s 8 (i+1) 3 0 with
      |none=>rw[hn]at h;cases h
      |some v =>
       rw[hn]at h;simp only[Option.bind_some]at h;split at h
       .cases h
       .cases h;exact zLi v mark
theorem yBv{s:ByteArray}{i mark n:Nat}{l:List Int}(h:item s i mark=some (n,l)):l.length<=n:=by
 unfold item at h;split at h
 .exact yFm h
 .split at h
  .cases h
  .split at h
   .cases h;simp
   .split at h
    .cases h
    .cases h;rw[zBo];simp;omega
theorem yBw{s:ByteArray}{i mark:Nat}(h:bt s i=92):item s i mark=esc s i mark:=by unfold item;rw[iP h]
@[irreducible] def readPost(s:ByteArray)(b i:Nat)(w0:World)(e:Ending)(w':World):Prop :=
 Below b w0 w'/\match xY s (bt s i) (i+1) 0 with
  |none=>e=.returned (.bool false)
  |some (j,x)=>e=.returned (.bool true)/\RS w' b s (j:Nat) (bt s i:Nat) x false
def readInv(s:ByteArray)(b i0 m:Nat)(w0:World)(k:Value)(wr:World):Prop :=
 ∃(kk:Nat) (j:Int) (l:List Int) (bd:Bool),k=.int .i64 kk/\kk<=s.size+1/\Below b w0 wr/\RS wr b s j m l bd/\
  ((bd=true/\xY s m (i0+1) 0=none)\/(bd=false/\∃i:Nat,j=i/\(m=34\/kk<=1)/\kk<=i/\i<=s.size/\l.length<=i/\xY s m (i0+1) 0=(xY s m i kk).map λp=>(p.1,l++p.2)))
theorem zNj{s:ByteArray}{b i0 m:Nat}{w0 w w1:World}{kk i:Nat}{l:List Int}(hb:Below b w0 w)(hb1:Below b w w1)(hmark:m=34\/m=39/\kk=0)(hi:i<s.size)(hc:bt s i≠m)(hk:kk<=i)(hl:l.length<=i)(hz:xY s m (i0+1) 0=(xY s m i kk).map λp=>(p.1,l++p.2))
  (hres:match item s i m with
   |some (n,x)=>RS w1 b s (i+n:Nat) m (l++x) false
   |none=>∃j l',RS w1 b s j m l' true):readInv s b i0 m w0 (.int .i64 (kk+1:Nat)) w1:=by
 rw[zIm hmark hi hc]at hz;cases hit:item s i m with
 |none =>
  rw[hit]at hres hz;obtain⟨j,l',h⟩:=hres;exact⟨kk+1,j,l',true,rfl,Z,hb.trans hb1,h,Or.inl ⟨rfl,by rw[hz];rfl⟩⟩
 |some q =>
  obtain⟨n,x⟩:=q;rw[hit]at hres hz;have hp:=jI hi hit;have hln:=yBv hit;refine⟨kk+1,_,l++x,false,rfl,Z,hb.trans hb1,hres,Or.inr ⟨rfl,i+n,rfl,?_,Z,Z,by rw[lA];omega,?_⟩⟩
  .rcases hmark with h|⟨_,h⟩
   .exact Or.inl h
   .right;omega
  .rw[hz];simp only[Option.bind_some,Option.map_map]
   congr 1
   funext p
   simp
theorem zQd(s:ByteArray)(b i:Nat)(w0:World)(hR:RS w0 b s (i:Nat) 0 [] false)(hi:i<s.size)(hm:bt s i=34\/bt s i=39)(hs:s.size<=140737488351232) :
  Calls Tryz.prog 164 #[.pointer (some ⟨b,0,none⟩)] w0 (readPost s b i w0):=by
 have HQF:Hid (∀w',Below b w0 w'->xY s (bt s i) (i+1) 0=none->readPost s b i w0 (.returned (.bool false)) w') :=
  Hd λw' h1 h2=>by unfold readPost;refine⟨h1,?_⟩;rw[h2]
 have HQT:Hid (∀w' (j:Nat) x,Below b w0 w'->xY s (bt s i) (i+1) 0=some (j,x)->RS w' b s (j:Nat) (bt s i:Nat) x false->readPost s b i w0 (.returned (.bool true)) w') :=
  Hd λw' j x h1 h2 h3=>by unfold readPost;refine⟨h1,?_⟩;rw[h2];exact⟨rfl,h3⟩
 generalize readPost s b i w0=Q at *;have hbt:=zL s i hi;have hbl:=yT s i;have hi0:(0:Int)<=i:=Z;have hi':(i:Int)<s.size:=Z;have hw8:IntKind.u8.wrap (bt s i:Int)=bt s i:=by unfold IntKind.wrap;simp[IntKind.signed,IntKind.bits];omega
 have HR:=Hd hR;have c0:=hR.c0;have c1:=hR.c1;have c2:=hR.c2;have z2:=hR.fz 2;clear hR;generalize bt s i=m at *;go_enter Tryz.func164,Tryz.ntmps164;go_wp2_with fail;go_still_tail 10,Oa;change wpList _ _ _ _ _ w0.drew;have c1:(w0.drew.setCell ⟨b,2,none⟩ (.int .u8 (m:Int))).cell? ⟨b,1,none⟩=some (.int .i64 i):=(HR.out.drew.mark' (m:Int)).c1;have z1:=HR.out.fz 1;go_wp2_with fail;have HR2:=Hd ((HR.out.mark' (m:Int)).at' ((i:Int)+1)).drew;have HB2:=Hd (((bR b w0).setCell (p:=⟨b,2,none⟩) (nR b) (.int .u8 (m:Int))).setCell (p:=⟨b,1,none⟩) (nR b) (.int .i64 ((i:Int)+1))).drew;generalize((w0.setCell ⟨b,2,none⟩ (.int .u8 (m:Int))).setCell ⟨b,1,none⟩ (.int .i64 ((i:Int)+1))).drew=w2 at *;go_loopw [3] (λk wr=>readInv s b i m w0 k wr) (λk _=>s.size+1-(intOf k).toNat)
 case atStart =>
  refine⟨0,_,[],false,rfl,Z,HB2.out,HR2.out,Or.inr ⟨rfl,i+1,Z,Or.inr Z,Z,Z,Ob,?_⟩⟩;cases xY s m (i+1) 0<;>simp
 case round =>
  obtain⟨kk,j,l,bd,rfl,hkk,hb,hr,hor⟩:=hrel;have hwk:IntKind.i64.wrap ((kk:Int)+1)=((kk+1:Nat):Int):=wI Z;have HB:=Hd hb;have c0:=hr.c0;have c1:=hr.c1;have c4:=hr.c4;have HRR:=Hd hr;clear hr hb;rcases hor with⟨rfl,hnone⟩|⟨rfl,i',rfl,hkm,hki,his,hli,hz⟩
  .have hno:∀n,Q (.returned (.bool false)) (wr.drewN n):=λn=>HQF.out _ (bdrewN HB.out n) hnone
   have HNO:=Hd hno;clear hno hnone;by_cases hp:j<(s.size:Int)
   .have hpb:decide (j<(s.size:Int))=true:=decide_eq_true hp;go_wp2_with fail;go_quiet (fail);go_wp2_with fail;show Q (.returned (.bool false)) _;exact HNO.out _
   .have hpb:decide (j<(s.size:Int))=false:=decide_eq_false hp;go_wp2_with fail;go_quiet (fail);go_wp2_with fail;show Q (.returned (.bool false)) _;exact HNO.out _
  .have HZ:=Hd hz;clear hz;by_cases hp:i'<s.size
   .have hp':(i':Int)<s.size:=Z;have hpb:decide ((i':Int)<(s.size:Int))=true:=decide_eq_true hp';have hp0:(0:Int)<=i':=Z;have hbt':=zL s i' hp;have hbl':=yT s i';have HE:=Hd (λ(w:World)(hw:RS w b s (i'+1:Nat) m l false)=>zKf s b i' m hm l w hw hp hs hli);have HP:=Hd (λ(w:World)(hw:RS w b s (i':Nat) m l false)(h92:bt s i'≠92)=>zNg s b i' m hm l w hw hp h92 hs hli);have HI:=Hd (λ(w1 w2:World)(h1:Below b w0 w1)(h2:Below b w1 w2)(hmm:m=34\/m=39/\kk=0)(hc:bt s i'≠m)=>zNj h1 h2 hmm hp hc hki hli HZ.out);have HIE:=Hd (λ(h:bt s i'=92)=>yBw (s:=s) (i:=i') (mark:=m) h);have H34:=Hd (λ(h:bt s i'=34)=>zNh (s:=s) (i:=i') (k:=kk) hp h);have H39:=Hd (λ(h:bt s i'=39)=>zNi (s:=s) (i:=i') hp h);have H2:=Hd (λ(h:bt s i'≠39)=>zXi (s:=s) (i:=i') h);generalize bt s i'=c at *;go_wp2_with fail;go_quiet (fail);have HR3:=Hd (HRR.out.drewN nq);have HB3:=Hd (bdrewN HB.out nq);generalize wr.drewN nq=w3 at *;have c0:=HR3.out.c0;have c1:=HR3.out.c1;go_wp2_with fail;go_quiet (fail);have HR4:=Hd (HR3.out.drewN nq);have HB4:=Hd (bdrewN HB3.out nq);generalize w3.drewN nq=w4 at *;have c0:=HR4.out.c0;have c1:=HR4.out.c1;have c2:=HR4.out.c2;have z1:=HR4.out.fz 1;by_cases hc:c=m
    .have hc':(c:Int)=m:=Z;have HA:=Hd (HR4.out.at' ((i':Int)+1));have HBA:=Hd (HB4.out.setCell (p:=⟨b,1,none⟩) (nR b) (.int .i64 ((i':Int)+1)));rcases hm with rfl|rfl
     .go_wp2_with fail;show Q (.returned (.bool true)) _;refine HQT.out _ (i'+1) l HBA.out (by rw[HZ.out,H34.out hc];simp) HA.out
     .rcases Nat.lt_or_ge kk 1 with hk|hk
      .obtain rfl:kk=0:=Z;go_wp2_with fail;show Q (.returned (.bool false)) _;exact HQF.out _ HBA.out (by rw[HZ.out,(H39.out hc).1];rfl)
      .obtain rfl:kk=1:=Z;go_wp2_with fail;show Q (.returned (.bool true)) _;refine HQT.out _ (i'+1) l HBA.out (by rw[HZ.out,(H39.out hc).2];simp) HA.out
    .have hc':¬(c:Int)=m:=Z;have hcb:((c:Int)==m)=false:=by rw[bE];exact hc'
     by_cases h2:m=39/\kk=1
     .obtain⟨rfl,rfl⟩:=h2;go_wp2_with fail;show Q (.returned (.bool false)) _;exact HQF.out _ HB4.out (by rw[HZ.out,H2.out hc];rfl)
     .have hm2:m=34\/m=39/\kk=0:=Z;by_cases h92:c=92
      .have h92':(c:Int)=92:=Z;have HM:=Hd hm2;have hr5:RS (w4.setCell ⟨b,1,none⟩ (.int .i64 ((i':Int)+1))) b s (i'+1:Nat) m l false:=by
        have:=HR4.out.at' ((i'+1:Nat):Int);exact this
       have hb5:=(bR b w4).setCell (p:=⟨b,1,none⟩) (nR b) (.int .i64 ((i':Int)+1));have HR5:=Hd hr5;have HB5:=Hd hb5;clear hr5 hb5;rcases hm2 with rfl | ⟨rfl,rfl⟩;all_goals (
        go_wp2_with fail;generalize w4.setCell ⟨b,1,none⟩ (.int .i64 ((i':Int)+1))=w5 at *;refine(HE.out _ HR5.out).mono ?_;intro e w6 h6;unfold escPost at h6;obtain⟨hb6,rfl,hres⟩:=h6;rw[<-HIE.out h92]at hres;have HREL:=HI.out _ _ HB4.out (HB5.out.trans hb6) HM.out hc hres;have HRL:=Hd HREL;clear hres HREL;go_wp2_with fail;refine⟨?_,(by simp[intOf];try omega)⟩;repeat apply Exists.intro
        refine⟨?_,rfl⟩;exact HRL.out)
      ·have h92':¬ (c:Int)=92:=Z;have HM:=Hd hm2;rcases hm2 with rfl | ⟨rfl,rfl⟩;all_goals (
        go_wp2_with fail;refine(HP.out _ HR4.out h92).mono ?_;intro e w6 h6;unfold xB at h6;obtain⟨hb6,rfl,hres⟩:=h6;have HREL:=HI.out _ _ HB4.out hb6 HM.out hc hres;have HRL:=Hd HREL;clear hres HREL;go_wp2_with fail;refine⟨?_,(by simp[intOf];try omega)⟩;repeat apply Exists.intro
        refine⟨?_,rfl⟩;exact HRL.out)
   .have hp':¬(i':Int)<s.size:=Z;have hpb:decide ((i':Int)<(s.size:Int))=false:=decide_eq_false hp';have hend:=zXh (mark:=m) (k:=kk) hp;have HN:Hid (xY s m (i+1) 0=none):=Hd (by rw[HZ.out,hend];rfl);clear hend;go_wp2_with fail;go_quiet (fail);have HB3:=Hd (bdrewN HB.out nq);generalize wr.drewN nq=w3 at *;go_wp2_with fail;show Q (.returned (.bool false)) _;exact HQF.out _ HB3.out HN.out
end Go.Proofs.YtfpjdpdmgceciaaGreatDoor
