/- 'append' as a run equation that a walk takes by itself. -/
import Derived.Test.YtfpjdpdmgceciaaGreatDoorCoreTg
import Derived.Maps.AppendAt
import Derived.Deep.QuietTactic
import Derived.BigQuiet
namespace Go.Proofs.YtfpjdpdmgceciaaGreatDoor
set_option linter.all false
open Go Go.RowKit
section
variable {P:Program}
theorem kG(w:World)(t ty e:TypeId)(ht:P.underlying t=some (.slice e))(base:Nat){z:Value}{size bytes:Nat}(hinfo:(P.info? e).map (λi=>(i.zero,i.size,i.bytes))=some (some z,size,bytes))(hzs:z.cells.size=size)(hsz:0<size)(v:Value)(n:Nat)(xs:List Value)(hown:w.ownsRow base e size v n xs)(src:Value)(m:Nat)(news:List Value)(hrow:Row w src m size news)(h1:∀u∈news,u.oneCell'=true)(h63:n+m<=70368744177664)(hbytes:(n+m)*bytes<=140737488355328)(hbase:base<=w.heap.size) :
  ∃v' w',(Builtin.append_ #[t,t] ty #[v,src]).run P w=.ok v' w'/\w'.ownsRow base e size v' (n+m) (xs++news)/\w.grownBy w' v.ownBlock/\(v'.ownBlock=v.ownBlock\/v'.ownBlock=some w.heap.size):=by
 obtain⟨i,hi,hz0,hz1,hz2⟩:=info_parts hinfo;obtain⟨hl,ad,cap,rfl,hc,hnone,hsome⟩:=hrow;cases ad with
 |none =>
  have hc0:=hnone rfl;subst hc0;obtain rfl:m=0:=Z;obtain rfl:news=[]:=List.eq_nil_of_length_eq_zero (by simpa using hl);exact⟨v,w,run_append_owned_none (P:=P) (w:=w) base t ty e i size ht hi v n xs hown,by simpa using hown,World.grownBy.refl _ _,Or.inl rfl⟩
 |some ad =>
  obtain⟨v',w',g1,g2,g3,_,g5⟩:=run_append_own_at (P:=P) w base t ty e i z size bytes ht hi hz0 hz1 hz2 hzs hsz v n xs hown ad m cap news hl (by
   intro j u hj;have hjl:j<news.length:=(List.getElem?_eq_some_iff.1 hj).1;have hm:0<m:=by
    rcases Nat.eq_zero_or_pos m with e|e
    .subst e;simp at hl;rw[hl]at hjl;simp at hjl
    .exact e
   obtain⟨b,off,he,hbl,hcell⟩:=hsome hm;cases he
   have e1:(⟨b,off,none⟩:Addr).add j=⟨b,off+j,none⟩:=by simp[Addr.add]
   rw[e1,hcell j Z];exact hj) h1 (by unfold maxLen;omega) hbytes hbase
  exact⟨v',w',g1,g2,g3,g5⟩
theorem vV(w0:World)(C:Array Value)(e' t ty e:TypeId)(ht:P.underlying t=some (.slice e))(base:Nat){z:Value}{size bytes:Nat}(hinfo:(P.info? e).map (λi=>(i.zero,i.size,i.bytes))=some (some z,size,bytes))(hzs:z.cells.size=size)(hsz:0<size)(v:Value)(n:Nat)(xs:List Value)(hown:w0.ownsRow base e size v n xs)(m c:Nat)(hl:C.size=m*size)(hmc:m<=c)(h1:∀u∈C.toList,u.oneCell'=true)(h63:n+m<=70368744177664)(hbytes:(n+m)*bytes<=140737488355328)(hbase:base<=w0.heap.size) :
  ∃v' w',(Builtin.append_ #[t,t] ty #[v,.slice (some ⟨w0.heap.size,0,none⟩) m c]).run P (w0.alloc (.cells C e'))=.ok v' w'/\w'.ownsRow base e size v' (n+m) (xs++C.toList)/\(w0.alloc (.cells C e')).grownBy w' v.ownBlock/\(v'.ownBlock=v.ownBlock\/v'.ownBlock=some (w0.heap.size+1)):=by
 obtain⟨v',w',g1,g2,g3,g4⟩:=kG (P:=P) (w0.alloc (.cells C e')) t ty e ht base hinfo hzs hsz v n xs (hown.alloc _) (.slice (some ⟨w0.heap.size,0,none⟩) m c) m C.toList
  ⟨by simpa using hl,some ⟨w0.heap.size,0,none⟩,c,rfl,hmc,Ob,λ_=>⟨w0.heap.size,0,rfl,Ob,λi _=>by rw[Nat.zero_add,World.cell?_alloc_at _ _ _ _ rfl];simp⟩⟩ h1 h63 hbytes (by simp;omega)
 exact⟨v',w',g1,g2,g3,by simpa using g4⟩
theorem zE{w w':World}{ops:Array Oper}{rest:List Oper}{o:Oper}{a:Act}{Q:Exit->Act->World->Prop}(hgd:o.guard=none)(s x:Operand)(t u:TypeId){v src v':Value}{ty:TypeId}(hrun:(Builtin.append_ #[t,u] ty #[v,src]).run P w=.ok v' w')(ho:o.op=.call { callee:=.builtin .append,args:=#[s,x],argTypes:=#[t,u] })(hty:o.type=ty)(hs:a.eval s=v)(hx:a.eval x=src)(h:wpList P ops Q rest (a.put o.dst v') w'):wpList P ops Q (o::rest) a w:=by
 subst hty;refine wpList_plain hgd λK hK=>?_;unfold Oper.wp;simp[execOp,ho,resolve,invoke,builtin,hs,hx,hrun,Result.andThen];exact hK _ _ h
end
theorem xZ{w0 w w':World}{B:Nat}{v:Value}{e:TypeId}{size n:Nat}{xs:List Value}(hb:Below B w0 w)(hB:B<=w.heap.size)(hown:w.ownsRow B e size v n xs)(hg:w.grownBy w' v.ownBlock):Below B w0 w' :=
 hb.grown hg hB (λk hk=>(hown.lt k hk).1)
theorem zAd(w:World)(B:Nat)(e:TypeId)(size:Nat)(hB:B<=w.heap.size):(w.alloc (.cells #[] e)).ownsRow B e size (.slice (some ⟨w.heap.size,0,none⟩) 0 0) 0 [] :=
 ⟨Ob,Or.inr ⟨w.heap.size,0,#[],rfl,hB,heap_alloc_new _ _,nR _,by unfold maxLen;omega,Ob,Ob⟩⟩
theorem zOi{w:World}{B g:Nat}{e:TypeId}{size n cap:Nat}{xs:List Value}(h:w.ownsRow B e size (.slice (some ⟨g,0,none⟩) n cap) n xs)(j:Nat)(hj:j<xs.length)(u:Value):(w.setCell ⟨g,j,none⟩ u).ownsRow B e size (.slice (some ⟨g,0,none⟩) n cap) n (xs.set j u):=by
 obtain⟨h1,h2⟩:=h;refine⟨by rw[List.length_set];exact h1,Or.inr ?_⟩;rcases h2 with⟨hv,_⟩|⟨g',cap',cur,hv,hg,hh,hnc,hcm,hcs,htk⟩
 .cases hv
 .simp only[Value.slice.injEq,Option.some.injEq,Addr.mk.injEq,and_true,true_and]at hv;obtain⟨rfl,rfl⟩:=hv;refine⟨g,cap,cur.setIfInBounds j u,rfl,hg,heap_setCell_same _ _ _ _ _ _ hh,hnc,hcm,by rw[Array.size_setIfInBounds];exact hcs,?_⟩;rw[Array.toList_setIfInBounds,List.take_set,htk]
abbrev ptrV(g:Nat):Value:=.pointer (some ⟨g,0,none⟩)
def ptrsV(gs:List Nat):List Value:=gs.map ptrV
theorem zDr(gs:List Nat):(ptrsV gs).length=gs.length:=by unfold ptrsV;simp
theorem yAy(gs:List Nat):∀u∈ptrsV gs,u.oneCell'=true:=by
 intro u hu;obtain⟨g,_,rfl⟩:=List.mem_map.1 hu;rfl
theorem yAz(a b:List Nat):ptrsV (a++b)=ptrsV a++ptrsV b:=by unfold ptrsV;simp
def leastK(k:Nat):Nat:=if k=53 then 2 else if k=29\/k=30\/k=50\/k=33 then 1 else 0
def leastC(k:Nat):Nat:=if k=26\/k=27 then 1000000001 else if k=53 then 2 else if k=29\/k=30\/k=50\/k=33 then 1 else 0
structure SynE where
 s:ByteArray
 toks:List (Int×Nat×Nat)
 prs:List Int
 vt:Value
 vp:Value
 w0:World
def SynE.gr(E:SynE):Nat:=E.w0.heap.size
def SynE.N(E:SynE):Nat:=E.toks.length
def wordZ(E:SynE)(i:Int):ByteArray :=
 if i<0\/(E.N:Int)<=i then ByteArray.empty else match E.toks[i.toNat]? with
 |some t=>if t.1=9 then⟨#[59]⟩else if t.1=8\/t.1=2 then E.s.extract t.2.1 t.2.2 else ByteArray.empty
 |none=>ByteArray.empty
def kindZ(E:SynE)(i:Int):Int:=if i<0\/(E.N:Int)<=i then 0 else match E.toks[i.toNat]? with
 |some t=>t.1
 |none=>0
def kOK(E:SynE)(k:Nat)(w:Int)(n:Nat):Prop:=leastK k<=n/\(n<=1000000000->(k=26->kindZ E w=1)/\(k=27->3<=kindZ E w/\kindZ E w<=7))
theorem kOK.of{E:SynE}{k:Nat}{w:Int}{n:Nat}(h:leastC k<=n):kOK E k w n:=by
 unfold leastC at h;unfold kOK leastK;by_cases hk:k=26\/k=27
 .rw[iP hk]at h;exact⟨by rw[iN Z,iN Z];omega,λh=>Z⟩
 .rw[iN hk]at h;exact⟨h,λ_=>⟨λe=>absurd (Or.inl e) hk,λe=>absurd (Or.inr e) hk⟩⟩
theorem yEy{E:SynE}{j:Nat}(h:wordZ E j≠ByteArray.empty):j<E.N:=by
 unfold wordZ at h;by_cases c:(j:Int)<0\/(E.N:Int)<=j
 .rw[iP c]at h;exact absurd rfl h
 .omega
theorem zMq{E:SynE}{j:Nat}(h:kindZ E j≠0):j<E.N:=by
 unfold kindZ at h;by_cases c:(j:Int)<0\/(E.N:Int)<=j
 .rw[iP c]at h;exact absurd rfl h
 .omega
def textZ(E:SynE)(k:Nat)(w:Int):ByteArray :=
 let t:=if w<0 then ByteArray.empty else match E.toks[w.toNat]? with
  |some t=>E.s.extract t.2.1 t.2.2
  |none=>ByteArray.empty
 if k=45 then(if t=⟨#[60,45]⟩then⟨#[60,45,99,104,97,110]⟩else if wordZ E (w+1)=⟨#[60,45]⟩then⟨#[99,104,97,110,60,45]⟩else t)else t
abbrev nodeC(k:Nat)(w f t:Int)(v:Value):Obj:=.cells #[.int .u8 (k:Int),.int .i64 w,.int .i64 f,.int .i64 t,v] 50 (0,0)
abbrev NRow(W:World)(v:Value)(gs:List Nat):Prop:=W.ownsRow 0 41 1 v gs.length (ptrsV gs)
inductive Good (E:SynE) (W:World) (F:Nat->Prop):Nat->Nat->List Nat->List Prt->Prop
 |mk (g k:Nat) (word frm tx:Int) (v:Value) (gs:List Nat) (pss:List (List Prt)) (h0:F g) (hc:W.heap[g]?=some (nodeC k word frm tx v))
   (hw:-1<=word/\word<E.N) (hr:NRow W v gs/\∀b,v.ownBlock=some b->F b) (hk:k<256/\kOK E k word gs.length) (hl:pss.length=gs.length) (kind:Nat->Nat) (kids:Nat->List Nat)
   (ih:∀i (h:i<gs.length) (h':i<pss.length),Good E W F gs[i] (kind i) (kids i) pss[i]):Good E W F g k gs ((k,(gs.length:Int),textZ E k word)::pss.flatten)
theorem NRow.keep{W W':World}{v:Value}{gs:List Nat}(h:NRow W v gs)(hk:∀b,v.ownBlock=some b->b<W.heap.size->W'.heap[b]?=W.heap[b]?):NRow W' v gs:=by
 obtain⟨h1,h2⟩:=h;refine⟨h1,?_⟩;rcases h2 with h2|⟨k,cap,cur,hv,hB,hh,r⟩
 .exact Or.inl h2
 .exact Or.inr ⟨k,cap,cur,hv,hB,(hk k (by rw[hv];rfl) (yH hh)).trans hh,r⟩
theorem Good.to{E:SynE}{W W':World}{F F':Nat->Prop}(hk:∀b,F b->W'.heap[b]?=W.heap[b]?/\F' b):∀{g k:Nat}{gs:List Nat}{ps:List Prt},Good E W F g k gs ps->Good E W' F' g k gs ps:=by
 intro g k gs ps h;induction h with
 |mk g k word frm tx v gs pss h0 hc hw hr hkk hl kind kids ih ih2=>exact .mk g k word frm tx v gs pss (hk g h0).2 ((hk g h0).1.trans hc) hw ⟨hr.1.keep λb e _=>(hk b (hr.2 b e)).1,λb e=>(hk b (hr.2 b e)).2⟩ hkk hl kind kids ih2
def GoodS(E:SynE)(W:World)(F:Nat->Prop)(gs:List Nat)(ps:List Prt):Prop:=∃pss:List (List Prt),pss.length=gs.length/\ps=pss.flatten/\∀i (h:i<gs.length) (h':i<pss.length),∃k ks,Good E W F gs[i] k ks pss[i]
theorem GoodS.to{E:SynE}{W W':World}{F F':Nat->Prop}(hk:∀b,F b->W'.heap[b]?=W.heap[b]?/\F' b){gs:List Nat}{ps:List Prt}(h:GoodS E W F gs ps):GoodS E W' F' gs ps:=by
 obtain⟨pss,a,b,c⟩:=h;exact⟨pss,a,b,λi h1 h2=>by obtain⟨k,ks,g⟩:=c i h1 h2;exact⟨k,ks,g.to hk⟩⟩
theorem GoodS.nil(E:SynE)(W:World)(F:Nat->Prop):GoodS E W F [] []:=⟨[],rfl,rfl,λi h=>by simp at h⟩
theorem GoodS.cons{E:SynE}{W:World}{F:Nat->Prop}{g k:Nat}{ks gs:List Nat}{p ps:List Prt}(h:Good E W F g k ks p)(hs:GoodS E W F gs ps):GoodS E W F (g::gs) (p++ps):=by
 obtain⟨pss,a,b,c⟩:=hs;refine⟨p::pss,by simp[a],by simp[b],λi h1 h2=>?_⟩;cases i with
 |zero=>exact⟨k,ks,h⟩
 |succ i=>exact c i (by simpa using h1) (by simpa using h2)
theorem GoodS.app{E:SynE}{W:World}{F:Nat->Prop}{gs gs':List Nat}{ps ps':List Prt}(h:GoodS E W F gs ps)(h':GoodS E W F gs' ps'):GoodS E W F (gs++gs') (ps++ps'):=by
 obtain⟨szs,a2,a3,a4⟩:=h;obtain⟨szs',b2,b3,b4⟩:=h';refine⟨szs++szs',by rw[lA,lA,a2,b2],by rw[List.flatten_append,a3,b3],λi h1 h2=>?_⟩;by_cases c:i<gs.length
 .rw[List.getElem_append_left c,List.getElem_append_left Z];exact a4 i c Z
 .rw[List.getElem_append_right Z,List.getElem_append_right Z];have e:i-szs.length=i-gs.length:=by rw[a2]
  simp only[e];rw[lA]at h1;exact b4 (i-gs.length) Z Z
theorem zDs:∀{l:List (List Prt)}{x:List Prt},x∈l->x.length<=l.flatten.length
 |[],x,h=>by cases h
 |y::l,x,h=>by
  rw[List.flatten_cons,lA];rcases List.mem_cons.1 h with rfl|h
  .omega
  .have:=zDs h;omega
theorem GoodS.at{E:SynE}{W:World}{F:Nat->Prop}{gs:List Nat}{ps:List Prt}(h:GoodS E W F gs ps){i:Nat}(hi:i<gs.length):∃k ks p,Good E W F gs[i] k ks p/\p.length<=ps.length:=by
 obtain⟨pss,a2,a3,a4⟩:=h;obtain⟨k,ks,g⟩:=a4 i hi Z;refine⟨k,ks,_,g,?_⟩;rw[a3];exact zDs (gM _)
theorem Good.open'{E:SynE}{W:World}{F:Nat->Prop}{g k:Nat}{gs:List Nat}{ps:List Prt}(h:Good E W F g k gs ps):∃(word frm tx:Int) (v:Value) (ps':List Prt),F g/\W.heap[g]?=some (nodeC k word frm tx v)/\(-1<=word/\word<E.N)/\(k<256/\leastK k<=gs.length)/\(NRow W v gs/\∀b,v.ownBlock=some b->F b)/\GoodS E W F gs ps'/\ps=(k,(gs.length:Int),textZ E k word)::ps' :=
 match h with
 | .mk _ _ wd fr tx v _ pss h0 hc hw hr hk hl kind kids ih=>⟨wd,fr,tx,v,pss.flatten,h0,hc,hw,⟨hk.1,hk.2.1⟩,hr,⟨pss,hl,rfl,λi h1 h2=>⟨_,_,ih i h1 h2⟩⟩,rfl⟩
theorem Good.make{E:SynE}{W:World}{F:Nat->Prop}{g k:Nat}{word frm tx:Int}{v:Value}{gs:List Nat}{ps:List Prt}(h0:F g)(hc:W.heap[g]?=some (nodeC k word frm tx v))(hw:-1<=word/\word<E.N)(hk:k<256/\kOK E k word gs.length)(hr:NRow W v gs/\∀b,v.ownBlock=some b->F b)(hl:GoodS E W F gs ps):Good E W F g k gs ((k,(gs.length:Int),textZ E k word)::ps):=by
 obtain⟨pss,a2,a3,a4⟩:=hl;have hx:∀i,∃k ks,∀(h:i<gs.length)(h':i<pss.length),Good E W F gs[i] k ks pss[i]:=λi=>by
  by_cases h:i<gs.length
  .obtain⟨k,ks,g⟩:=a4 i h Z;exact⟨k,ks,λ_ _=>g⟩
  .exact⟨0,[],λh'=>absurd h' h⟩
 rw[a3];exact .mk g k word frm tx v gs pss h0 hc hw hr hk a2 (λx=>(hx x).choose) (λx=>(hx x).choose_spec.choose) (λx h h'=>(hx x).choose_spec.choose_spec h h')
structure Rd(E:SynE)(W:World)(j:Nat):Prop where
 below:Below E.w0.heap.size E.w0 W
 cell:∃t:Bool,W.heap[E.gr]?=some (.cells #[.string E.s,E.vt,E.vp,.int .i64 (j:Int),.bool t] 46 (0,0))
 le:j<=E.N
theorem Rd.lt{E:SynE}{W:World}{j:Nat}(h:Rd E W j):E.gr<W.heap.size:=by
 obtain⟨t,ht⟩:=h.cell;exact yH ht
inductive Item
 |done (g k:Nat) (gs:List Nat) (ps:List Prt)
 |raw (b:Nat) (o:Obj)
 |row (v:Value) (gs:List Nat) (ps:List Prt)
def Item.blk:Item->Option Nat
 | .done ..=>none
 | .raw b _=>some b
 | .row v _ _=>v.ownBlock
def Item.ok(E:SynE)(W:World)(F:Nat->Prop):Item->Prop
 | .done g k gs ps=>Good E W F g k gs ps
 | .raw b o=>W.heap[b]?=some o
 | .row v gs ps=>NRow W v gs/\GoodS E W F gs ps
theorem Item.ok.to{E:SynE}{W W':World}{F F':Nat->Prop}{x:Item}(h:x.ok E W F)(hF:∀b,F b->W'.heap[b]?=W.heap[b]?/\F' b)(hb:∀b,x.blk=some b->b<W.heap.size->W'.heap[b]?=W.heap[b]?):x.ok E W' F':=by
 cases x with
 |done g k gs ps=>exact Good.to hF h
 |raw b o=>exact(hb b rfl (yH h)).trans h
 |row v gs ps=>exact⟨h.1.keep hb,h.2.to hF⟩
def FrB(E:SynE)(W:World)(I:List Item)(b:Nat):Prop:=E.gr<b/\b<W.heap.size/\∀y∈I,y.blk≠some b
structure St(E:SynE)(W:World)(j:Nat)(I:List Item):Prop where
 r:Rd E W j
 ok:∀x∈I,x.ok E W (FrB E W I)
 gt:∀x∈I,∀b,x.blk=some b->E.gr<b/\b<W.heap.size
 nd:I.Pairwise λx y=>∀b,x.blk=some b->y.blk≠some b
section
variable {E:SynE} {W W':World} {j j':Nat} {A I I':List Item} {x x':Item}
theorem St.other(h:St E W j (A++x::I)){y:Item}(hy:y∈A\/y∈I){b:Nat}(hb:y.blk=some b):x.blk≠some b:=by
 have h1:=List.pairwise_append.1 h.nd;rcases hy with hy|hy
 .exact h1.2.2 y hy x (List.mem_cons_self ..) b hb
 .intro e;exact(List.pairwise_cons.1 h1.2.1).1 y hy b e hb
theorem St.upd(h:St E W j (A++x::I))(hr:Rd E W' j')(hs:W.heap.size<=W'.heap.size)(hk:∀b,E.gr<b->b<W.heap.size->x.blk≠some b->W'.heap[b]?=W.heap[b]?)(hb:∀b,x'.blk=some b->(x.blk=some b\/W.heap.size<=b)/\b<W'.heap.size)(ho:(∀b,FrB E W (A++x::I) b->W'.heap[b]?=W.heap[b]?/\FrB E W' (A++x'::I) b)->x'.ok E W' (FrB E W' (A++x'::I))):St E W' j' (A++x'::I):=by
 have mem:∀{y z:Item},y∈A++z::I↔(y∈A\/y∈I)\/y=z:=by
  intro y z;simp only[List.mem_append,List.mem_cons];exact⟨λh=>by rcases h with h|h|h<;>simp[h],λh=>by rcases h with(h|h)|h<;>simp[h]⟩
 have hF:∀b,FrB E W (A++x::I) b->W'.heap[b]?=W.heap[b]?/\FrB E W' (A++x'::I) b:=λb hf=>by
  refine⟨hk b hf.1 hf.2.1 (hf.2.2 x (mem.2 (Or.inr rfl))),hf.1,Nat.lt_of_lt_of_le hf.2.1 hs,λy hy e=>?_⟩;rcases mem.1 hy with hy|rfl
  .exact hf.2.2 y (mem.2 (Or.inl hy)) e
  .rcases(hb b e).1 with e'|e'
   .exact hf.2.2 x (mem.2 (Or.inr rfl)) e'
   .have:=hf.2.1;omega
 have hgt:∀y,y∈A\/y∈I->∀b,y.blk=some b->E.gr<b/\b<W.heap.size:=λy hy b e=>h.gt y (mem.2 (Or.inl hy)) b e
 have hne:∀y,y∈A\/y∈I->∀b,y.blk=some b->x'.blk≠some b:=λy hy b e e'=>by
  rcases(hb b e').1 with e2|e2
  .exact h.other hy e e2
  .have:=(hgt y hy b e).2;omega
 refine⟨hr,λy hy=>?_,λy hy b e=>?_,?_⟩
 .rcases mem.1 hy with hy|rfl
  .exact(h.ok y (mem.2 (Or.inl hy))).to hF λb e hlt=>hk b (hgt y hy b e).1 hlt (h.other hy e)
  .exact ho hF
 .rcases mem.1 hy with hy|rfl
  .exact⟨(hgt y hy b e).1,Nat.lt_of_lt_of_le (hgt y hy b e).2 hs⟩
  .refine⟨?_,(hb b e).2⟩;rcases(hb b e).1 with e'|e'
   .exact(h.gt x (mem.2 (Or.inr rfl)) b e').1
   .have:=h.r.lt;omega
 .have h1:=List.pairwise_append.1 h.nd;have h2:=List.pairwise_cons.1 h1.2.1;refine List.pairwise_append.2 ⟨h1.1,List.pairwise_cons.2 ⟨λy hy b e e'=>hne y (Or.inr hy) b e' e,h2.2⟩,λy hy z hz b e=>?_⟩;rcases List.mem_cons.1 hz with rfl|hz
  .exact hne y (Or.inl hy) b e
  .exact h1.2.2 y hy z (List.mem_cons_of_mem _ hz) b e
theorem St.push(h:St E W j I)(hr:Rd E W' j')(hs:W.heap.size<=W'.heap.size)(hk:∀b,E.gr<b->b<W.heap.size->W'.heap[b]?=W.heap[b]?)(hb:∀b,x'.blk=some b->W.heap.size<=b/\b<W'.heap.size)(ho:(∀b,FrB E W I b->W'.heap[b]?=W.heap[b]?/\FrB E W' (x'::I) b)->x'.ok E W' (FrB E W' (x'::I))):St E W' j' (x'::I):=by
 have hF:∀b,FrB E W I b->W'.heap[b]?=W.heap[b]?/\FrB E W' (x'::I) b:=λb hf=>by
  refine⟨hk b hf.1 hf.2.1,hf.1,Nat.lt_of_lt_of_le hf.2.1 hs,λy hy e=>?_⟩;rcases List.mem_cons.1 hy with rfl|hy
  .have:=(hb b e).1;have:=hf.2.1;omega
  .exact hf.2.2 y hy e
 refine⟨hr,λy hy=>?_,λy hy b e=>?_,List.pairwise_cons.2 ⟨λy hy b e e'=>?_,h.nd⟩⟩
 .rcases List.mem_cons.1 hy with rfl|hy
  .exact ho hF
  .exact(h.ok y hy).to hF λb e hlt=>hk b (h.gt y hy b e).1 hlt
 .rcases List.mem_cons.1 hy with rfl|hy
  .have:=(hb b e).1;have:=h.r.lt;exact⟨Z,(hb b e).2⟩
  .exact⟨(h.gt y hy b e).1,Nat.lt_of_lt_of_le (h.gt y hy b e).2 hs⟩
 .have:=(hb b e).1;have:=(h.gt y hy b e').2;omega
theorem St.move(h:St E W j I)(hr:Rd E W' j')(hs:W.heap.size<=W'.heap.size)(hk:∀b,E.gr<b->b<W.heap.size->W'.heap[b]?=W.heap[b]?):St E W' j' I:=by
 have hF:∀b,FrB E W I b->W'.heap[b]?=W.heap[b]?/\FrB E W' I b:=λb hf=>⟨hk b hf.1 hf.2.1,hf.1,Nat.lt_of_lt_of_le hf.2.1 hs,hf.2.2⟩
 exact⟨hr,λy hy=>(h.ok y hy).to hF λb e hlt=>hk b (h.gt y hy b e).1 hlt,λy hy b e=>⟨(h.gt y hy b e).1,Nat.lt_of_lt_of_le (h.gt y hy b e).2 hs⟩,h.nd⟩
theorem St.sub(h:St E W j I)(s:I'.Sublist I):St E W j I' :=
 ⟨h.r,λy hy=>(h.ok y (s.subset hy)).to (λb hf=>⟨rfl,hf.1,hf.2.1,λz hz=>hf.2.2 z (s.subset hz)⟩) (λ_ _ _=>rfl),λy hy=>h.gt y (s.subset hy),h.nd.sublist s⟩
theorem St.tl(h:St E W j (x::I)):St E W j I:=h.sub (List.sublist_cons_self _ _)
theorem St.again(h:St E W j I){g k:Nat}{gs:List Nat}{ps:List Prt}(hg:Good E W (FrB E W I) g k gs ps):St E W j (.done g k gs ps::I) :=
 h.push h.r (nR _) (λ_ _ _=>rfl) (λb e=>by cases e) (λhF=>Good.to hF hg)
theorem Rd.ext(h:Rd E W j)(hb:Below W.heap.size W W'):Rd E W' j:=by
 obtain⟨t,ht⟩:=h.cell;exact⟨zD h.below hb,⟨t,keeps hb ht⟩,h.le⟩
theorem St.ext(h:St E W j I)(hb:Below W.heap.size W W'):St E W' j I:=h.move (h.r.ext hb) hb.size λb _ hlt=>hb.block b hlt
theorem St.at'(h:St E W j I)(i:Nat)(hi:i<=E.N):St E (W.setCell ⟨E.gr,3,none⟩ (.int .i64 (i:Int))) i I:=by
 obtain⟨t,ht⟩:=h.r.cell;exact h.move ⟨h.r.below.setCell (p:=⟨E.gr,3,none⟩) (nR _) _,⟨t,heap_setCell_same W E.gr 3 _ _ _ ht⟩,hi⟩ Ob λb h1 _=>heap_setCell_other _ _ _ _ (Nat.ne_of_gt h1)
theorem St.tight(h:St E W j I)(t:Bool):St E (W.setCell ⟨E.gr,4,none⟩ (.bool t)) j I:=by
 obtain⟨t0,ht⟩:=h.r.cell;exact h.move ⟨h.r.below.setCell (p:=⟨E.gr,4,none⟩) (nR _) _,⟨t,heap_setCell_same W E.gr 4 _ _ _ ht⟩,h.r.le⟩ Ob λb h1 _=>heap_setCell_other _ _ _ _ (Nat.ne_of_gt h1)
theorem St.new(h:St E W j I)(o:Obj):St E (W.alloc o) j (.raw W.heap.size o::I) :=
 h.push (h.r.ext ((bR _ _).alloc (nR _) o)) Ob (λb _ hlt=>Below.heap_alloc _ _ _ hlt) (λb e=>by cases e;simp) (λ_=>heap_alloc_new _ _)
theorem St.put(A:List Item){b:Nat}{cs:Array Value}{T:TypeId}(h:St E W j (A++.raw b (.cells cs T (0,0))::I))(i:Nat)(u:Value):St E (W.setCell ⟨b,i,none⟩ u) j (A++.raw b (.cells (cs.setIfInBounds i u) T (0,0))::I):=by
 have hm:Item.raw b (.cells cs T (0,0))∈A++.raw b (.cells cs T (0,0))::I:=Ob;have hg:=h.gt _ hm b rfl;obtain⟨t,ht⟩:=h.r.cell;refine h.upd ⟨h.r.below.setCell (p:=⟨b,i,none⟩) (Nat.le_of_lt hg.1) _,⟨t,(heap_setCell_other _ _ _ _ (Nat.ne_of_lt hg.1)).trans ht⟩,h.r.le⟩ Ob (λc _ _ hne=>heap_setCell_other _ _ _ _ (λe=>hne (by rw[e];rfl))) (λc e=>?_) (λ_=>?_)
 .cases e
  exact⟨Or.inl rfl,by simpa using hg.2⟩
 .exact heap_setCell_same _ _ _ _ _ _ (h.ok _ hm)
theorem St.nil(h:St E W j I):St E W j (.row (.slice none 0 0) [] []::I) :=
 h.push h.r (nR _) (λ_ _ _=>rfl) (λb e=>by cases e) (λ_=>⟨World.ownsRow_nil _ _ _ _,GoodS.nil _ _ _⟩)
theorem St.lit(h:St E W j I)(gs:List Nat)(ps:List Prt)(hg:GoodS E W (FrB E W I) gs ps)(hn:gs.length<=1000):St E (W.alloc (.cells (ptrsV gs).toArray 41)) j (.row (.slice (some ⟨W.heap.size,0,none⟩) gs.length gs.length) gs ps::I):=by
 refine h.push (h.r.ext ((bR _ _).alloc (nR _) _)) Ob (λb _ hlt=>Below.heap_alloc _ _ _ hlt) (λb e=>by cases e;simp) (λhF=>⟨?_,hg.to hF⟩);refine⟨by rw[zDr];omega,Or.inr ⟨W.heap.size,gs.length,(ptrsV gs).toArray,rfl,Nat.zero_le _,heap_alloc_new _ _,nR _,by unfold maxLen;omega,by simp[zDr],?_⟩⟩;rw[List.take_of_length_le (by simp[zDr])]
theorem St.grow(A:List Item){v v':Value}{gs gs':List Nat}{ps ps':List Prt}(h:St E W j (A++.row v gs ps::I))(hg:W.grownBy W' v.ownBlock)(hv:v'.ownBlock=v.ownBlock\/v'.ownBlock=some W.heap.size)(ho:NRow W' v' (gs++gs'))(hp:GoodS E W (FrB E W (A++.row v gs ps::I)) gs' ps'):St E W' j (A++.row v' (gs++gs') (ps++ps')::I):=by
 have hm:Item.row v gs ps∈A++.row v gs ps::I:=Ob;have hgt:=h.gt _ hm;obtain⟨t,ht⟩:=h.r.cell;refine h.upd ⟨h.r.below.grown hg (Nat.le_of_lt h.r.lt) (λk e=>Nat.le_of_lt (hgt k e).1),⟨t,(hg.block _ h.r.lt (λe=>by have:=(hgt _ e.symm).1;omega)).trans ht⟩,h.r.le⟩ hg.size (λb _ hlt hne=>hg.block b hlt (λe=>hne e.symm)) (λb e=>?_) (λhF=>⟨ho,((h.ok _ hm).2.to hF).app (hp.to hF)⟩);refine⟨?_,(ho.lt b e).2⟩;have e':v'.ownBlock=some b:=e;rcases hv with hv|hv
 .left;show v.ownBlock=some b;rw[<-hv];exact e'
 .right;rw[hv]at e';cases e';exact nR _
theorem St.closeK(A:List Item){n k:Nat}{w f t:Int}{v:Value}{gs:List Nat}{ps:List Prt}(h:St E W j (A++.raw n (nodeC k w f t v)::.row v gs ps::I))(hw:-1<=w/\w<E.N)(hk:k<256/\kOK E k w gs.length):St E W j (A++.done n k gs ((k,(gs.length:Int),textZ E k w)::ps)::I):=by
 have hmr:Item.row v gs ps∈A++.raw n (nodeC k w f t v)::.row v gs ps::I:=Ob;have hmn:Item.raw n (nodeC k w f t v)∈A++.raw n (nodeC k w f t v)::.row v gs ps::I:=Ob;have h1:St E W j (A++.row v gs ps::I):=h.sub (List.Sublist.append_left (List.sublist_cons_self _ _) _);have hrow:=h.ok _ hmr;have hraw:W.heap[n]?=some (nodeC k w f t v):=h.ok _ hmn;have hF:∀b,FrB E W (A++.raw n (nodeC k w f t v)::.row v gs ps::I) b->W.heap[b]?=W.heap[b]?/\FrB E W (A++.done n k gs ((k,(gs.length:Int),textZ E k w)::ps)::I) b:=λb hf=>⟨rfl,hf.1,hf.2.1,λy hy=>by
  rcases List.mem_append.1 hy with hy|hy
  .exact hf.2.2 y (List.mem_append_left _ hy)
  .rcases List.mem_cons.1 hy with rfl|hy
   .intro e;cases e
   .exact hf.2.2 y (List.mem_append_right _ (List.mem_cons_of_mem _ (List.mem_cons_of_mem _ hy)))⟩
 refine h1.upd h1.r (nR _) (λ_ _ _ _=>rfl) (λb e=>by cases e) (λ_=>?_);refine Good.make ⟨(h.gt _ hmn n rfl).1,(h.gt _ hmn n rfl).2,λy hy e=>?_⟩ hraw hw hk ⟨hrow.1,λb e=>⟨(h.gt _ hmr b e).1,(h.gt _ hmr b e).2,λy hy e'=>?_⟩⟩ (hrow.2.to hF)
 .rcases List.mem_append.1 hy with hy|hy
  .exact h.other (Or.inl hy) e rfl
  .rcases List.mem_cons.1 hy with rfl|hy
   .cases e
   .exact h.other (Or.inr (List.mem_cons_of_mem _ hy)) e rfl
 .rcases List.mem_append.1 hy with hy|hy
  .exact h1.other (Or.inl hy) e' e
  .rcases List.mem_cons.1 hy with rfl|hy
   .cases e'
   .exact h1.other (Or.inr hy) e' e
theorem St.close(A:List Item){n k:Nat}{w f t:Int}{v:Value}{gs:List Nat}{ps:List Prt}(h:St E W j (A++.raw n (nodeC k w f t v)::.row v gs ps::I))(hw:-1<=w/\w<E.N)(hk:k<256/\leastC k<=gs.length):St E W j (A++.done n k gs ((k,(gs.length:Int),textZ E k w)::ps)::I):=h.closeK A hw ⟨hk.1,kOK.of hk.2⟩
end
abbrev bE0:ByteArray:=⟨#[]⟩
inductive ExT where
 |none
 |name (w:ByteArray)
 |lit (w:ByteArray)
 |paren (a:ExT)
 |sel (a:ExT) (w:ByteArray)
 |index (a r:ExT)
 |slice (a b c d:ExT)
 |call (a r:ExT) (w:ByteArray)
 |star (a:ExT)
 |un (w:ByteArray) (a:ExT)
 |bin (w:ByteArray) (a b:ExT)
 |nil
 |cons (a r:ExT)
namespace ExT
def cnt:ExT->Nat
 |cons _ r=>r.cnt+1
 |_=>0
def flat:ExT->List Prt
 |none=>[(0,0,bE0)]
 |name w=>[(26,0,w)]
 |lit w=>[(27,0,w)]
 |paren a=>(28,1,bE0)::a.flat
 |sel a w=>(29,2,bE0)::(a.flat++[(26,0,w)])
 |index a r=>(30,2,bE0)::(a.flat++(11,(r.cnt:Int),bE0)::r.flat)
 |slice a b c d=>(31,4,bE0)::(a.flat++(b.flat++(c.flat++d.flat)))
 |call a r w=>(34,2,w)::(a.flat++(11,(r.cnt:Int),bE0)::r.flat)
 |star a=>(35,1,bE0)::a.flat
 |un w a=>(36,1,w)::a.flat
 |bin w a b=>(37,2,w)::(a.flat++b.flat)
 |nil=>[]
 |cons a r=>a.flat++r.flat
def srt:ExT->Nat
 |none=>2
 |name _=>1
 |lit _=>1
 |paren a=>if a.srt=1 then 1 else 0
 |sel a _=>if a.srt=1 then 1 else 0
 |index a r=>if a.srt=1/\r.srt=3/\1<=r.cnt then 1 else 0
 |slice a b c d=>if a.srt=1/\(b.srt=1\/b.srt=2)/\(c.srt=1\/c.srt=2)/\(d.srt=1\/d.srt=2)/\(c.srt=2->d.srt=2)then 1 else 0
 |call a r w=>if a.srt=1/\r.srt=3/\(w≠bE0->1<=r.cnt)then 1 else 0
 |star a=>if a.srt=1 then 1 else 0
 |un _ a=>if a.srt=1 then 1 else 0
 |bin _ a b=>if a.srt=1/\b.srt=1 then 1 else 0
 |nil=>3
 |cons a r=>if a.srt=1/\r.srt=3 then 3 else 0
end ExT
def simK(k:Nat):Bool:=k==0 || k==11 || k==26 || k==27 || k==28 || k==29 || k==30 || k==31 || k==34 || k==35 || k==36 || k==37
def simL(ps:List Prt):Prop:=∀p∈ps,simK p.1=true
theorem simL.app{a b:List Prt}(h:simL (a++b)):simL a/\simL b:=⟨λp hp=>h p (List.mem_append_left _ hp),λp hp=>h p (List.mem_append_right _ hp)⟩
theorem simL.tl{x:Prt}{b:List Prt}(h:simL (x::b)):simL b:=λp hp=>h p (.tail _ hp)
def X1(ps:List Prt):Prop:=simL ps->∃x:ExT,x.srt=1/\x.flat=ps
def X2(ps:List Prt):Prop:=simL ps->∃x:ExT,(x.srt=1\/x.srt=2)/\x.flat=ps
def RowK(κ:List Prt->Prop)(n:Nat)(ps:List Prt):Prop:=∃pss:List (List Prt),pss.length=n/\ps=pss.flatten/\∀p∈pss,κ p
theorem RowK.nil{κ:List Prt->Prop}:RowK κ 0 []:=⟨[],rfl,rfl,λp hp=>by cases hp⟩
theorem RowK.snoc{κ:List Prt->Prop}{n:Nat}{ps p:List Prt}(h:RowK κ n ps)(hp:κ p):RowK κ (n+1) (ps++p):=by
 obtain⟨pss,h1,rfl,h3⟩:=h;refine⟨pss++[p],by simp[h1],Ob,λq hq=>?_⟩;rcases List.mem_append.1 hq with hq|hq
 .exact h3 q hq
 .rw[List.mem_singleton]at hq;subst hq;exact hp
theorem RowK.row:∀{pss:List (List Prt)},(∀p∈pss,X1 p)->simL pss.flatten->∃r:ExT,r.srt=3/\r.cnt=pss.length/\r.flat=pss.flatten
 |[],_,_=>⟨.nil,rfl,rfl,rfl⟩
 |p::l,h,hs=>by
  rw[List.flatten_cons]at hs;obtain⟨s1,s2⟩:=hs.app;obtain⟨x,x1,x2⟩:=h p (.head _) s1;obtain⟨r,r1,r2,r3⟩:=RowK.row (λq hq=>h q (.tail _ hq)) s2;exact⟨.cons x r,by simp[ExT.srt,x1,r1],by simp[ExT.cnt,r2],by simp[ExT.flat,x2,r3]⟩
def XS(ps:List Prt):Prop:=∃(n:Nat) (q:List Prt),ps=(11,(n:Int),bE0)::q/\1<=n/\RowK X1 n q
theorem XS.mk{n:Nat}{q:List Prt}(h1:1<=n)(h2:RowK X1 n q):XS ((11,(n:Int),bE0)::q):=⟨n,q,rfl,h1,h2⟩
def XS0(n:Nat)(ps:List Prt):Prop:=∃q:List Prt,ps=(11,(n:Int),bE0)::q/\RowK X1 n q
theorem tz0(E:SynE)(k:Nat)(h:k≠45):textZ E k (-1)=bE0:=by unfold textZ;simp[h];rfl
theorem fS{k:Nat}{n:Int}{w:ByteArray}{q:List Prt}(h:simK k=false:=by decide):X1 ((k,n,w)::q):=λhs=>by
 have:=hs _ (.head _);rw[h]at this;cases this
theorem zIg(w:ByteArray):X1 [(26,0,w)]:=λ_=>⟨.name w,rfl,rfl⟩
theorem yIs(w:ByteArray):X1 [(27,0,w)]:=λ_=>⟨.lit w,rfl,rfl⟩
theorem X1.two{ps:List Prt}(h:X1 ps):X2 ps:=λhs=>by obtain⟨x,h1,h2⟩:=h hs;exact⟨x,Or.inl h1,h2⟩
theorem yHq{ps:List Prt}(e:ps=[(0,0,bE0)]):X2 ps:=λ_=>⟨.none,Or.inr rfl,e.symm⟩
theorem x_nn(E:SynE):X2 [(0,0,textZ E 0 (-1))]:=yHq (by rw[tz0 E 0 V])
theorem XS0.mk{n:Nat}{q:List Prt}(h:RowK X1 n q):XS0 n ((11,(n:Int),bE0)::q):=⟨q,rfl,h⟩
theorem X1.ne{p:List Prt}(h:X1 p):p≠[(0,0,bE0)]:=λe=>by
 subst e;obtain⟨x,h1,h2⟩:=h (λq hq=>by rw[List.mem_singleton]at hq;subst hq;rfl);cases x<;>simp[ExT.flat]at h2<;>simp only[ExT.srt]at h1<;>(try split at h1)<;>first|omega|skip
theorem zUw{p:List Prt}(h:X1 p):X1 ((28,1,bE0)::p):=λhs=>by
 obtain⟨x,h1,h2⟩:=h hs.tl;exact⟨.paren x,by simp[ExT.srt,h1],by simp[ExT.flat,h2]⟩
theorem yBf{p:List Prt}(h:X1 p):X1 ((35,1,bE0)::p):=λhs=>by
 obtain⟨x,h1,h2⟩:=h hs.tl;exact⟨.star x,by simp[ExT.srt,h1],by simp[ExT.flat,h2]⟩
theorem x_un{p:List Prt}(w:ByteArray)(h:X1 p):X1 ((36,1,w)::p):=λhs=>by
 obtain⟨x,h1,h2⟩:=h hs.tl;exact⟨.un w x,by simp[ExT.srt,h1],by simp[ExT.flat,h2]⟩
theorem yIt{p q:List Prt}(w:ByteArray)(h:X1 p)(k:X1 q):X1 ((37,2,w)::(p++q)):=λhs=>by
 obtain⟨s1,s2⟩:=hs.tl.app;obtain⟨x,h1,h2⟩:=h s1;obtain⟨y,k1,k2⟩:=k s2;exact⟨.bin w x y,by simp[ExT.srt,h1,k1],by simp[ExT.flat,h2,k2]⟩
theorem yBg{p:List Prt}(w:ByteArray)(h:X1 p):X1 ((29,2,bE0)::(p++[(26,0,w)])):=λhs=>by
 obtain⟨x,h1,h2⟩:=h hs.tl.app.1;exact⟨.sel x w,by simp[ExT.srt,h1],by simp[ExT.flat,h2]⟩
theorem zCa{p q:List Prt}(h:X1 p)(k:XS q):X1 ((30,2,bE0)::(p++q)):=λhs=>by
 obtain⟨n,q,rfl,hn,pss,g1,rfl,g3⟩:=k;obtain⟨s1,s2⟩:=hs.tl.app;obtain⟨x,h1,h2⟩:=h s1;obtain⟨r,r1,r2,r3⟩:=RowK.row g3 s2.tl;exact⟨.index x r,by simp only[ExT.srt];rw[iP ⟨h1,r1,Z⟩],by simp[ExT.flat,h2,r2,r3,g1]⟩
theorem zMv{p a b c:List Prt}(h:X1 p)(ha:X2 a)(hb:X2 b)(hc:X2 c)(hbc:b=[(0,0,bE0)]->c=[(0,0,bE0)]):X1 ((31,4,bE0)::(p++(a++(b++c)))):=λhs=>by
 obtain⟨s1,s2⟩:=hs.tl.app;obtain⟨s2,s3⟩:=s2.app;obtain⟨s3,s4⟩:=s3.app;obtain⟨x,h1,h2⟩:=h s1;obtain⟨y,y1,y2⟩:=ha s2;obtain⟨z,z1,z2⟩:=hb s3;obtain⟨u,u1,u2⟩:=hc s4;have zCc:∀v:ExT,v.srt=2->v.flat=[(0,0,bE0)]:=λv hv=>by
  cases v<;>simp only[ExT.srt]at hv<;>first|rfl|(exfalso;revert hv;try split)<;>simp
 have back:∀v:ExT,v.flat=[(0,0,bE0)]->v.srt=1\/v.srt=2->v.srt=2:=λv hv h12=>by
  cases v<;>simp[ExT.flat]at hv<;>first|rfl|skip
  all_goals(rcases h12 with h12|h12<;>simp only[ExT.srt]at h12<;>(try split at h12)<;>first|omega|skip)
 refine⟨.slice x y z u,?_,by simp[ExT.flat,h2,y2,z2,u2]⟩;simp only[ExT.srt];rw[iP ⟨h1,y1,z1,u1,λhz=>back u (u2.trans (hbc (z2.symm.trans (zCc z hz)))) u1⟩]
theorem yHr{p q:List Prt}{n:Nat}(w:ByteArray)(h:X1 p)(k:XS0 n q)(hw:w≠bE0->1<=n):X1 ((34,2,w)::(p++q)):=λhs=>by
 obtain⟨q,rfl,pss,g1,rfl,g3⟩:=k;obtain⟨s1,s2⟩:=hs.tl.app;obtain⟨x,h1,h2⟩:=h s1;obtain⟨r,r1,r2,r3⟩:=RowK.row g3 s2.tl;exact⟨.call x r w,by simp only[ExT.srt];rw[iP ⟨h1,r1,λh=>by rw[r2,g1];exact hw h⟩],by simp[ExT.flat,h2,r2,r3,g1]⟩
structure SynF(E:SynE):Prop where
 T:TokRow E.w0 E.vt E.toks
 P:zK E.w0 E.vp .i64 E.prs
 Pl:E.prs.length=E.toks.length
 Pb:∀p∈E.prs,-100000000<=p/\p<=100000000
 ok:∀t∈E.toks,(0<=t.1/\t.1<256)/\t.2.1<=t.2.2/\t.2.2<=E.s.size
 n:E.toks.length<=1000000
 sz:E.s.size<=1000000
section
variable {E:SynE} {W W':World} {j i:Nat} {I:List Item}
theorem Rd.c(h:Rd E W j):W.cell? ⟨E.gr,0,none⟩=some (.string E.s)/\W.cell? ⟨E.gr,1,none⟩=some E.vt/\W.cell? ⟨E.gr,2,none⟩=some E.vp/\W.cell? ⟨E.gr,3,none⟩=some (.int .i64 (j:Int))/\(∃t:Bool,W.cell? ⟨E.gr,4,none⟩=some (.bool t))/\∀i,W.frozen? ⟨E.gr,i,none⟩=false:=by
 obtain⟨t,ht⟩:=h.cell;simp[World.cell?,World.frozen?,ht]
theorem Rd.c3(h:Rd E W j):W.cell? ⟨E.gr,3,none⟩=some (.int .i64 (j:Int)):=h.c.2.2.2.1
theorem Rd.z(h:Rd E W j)(i:Nat):W.frozen? ⟨E.gr,i,none⟩=false:=h.c.2.2.2.2.2 i
end
abbrev panE(i:Nat):Ending:=.panicked [{ v:=.iface 78 (.int .i64 (i:Int)),recovered:=false }]
@[irreducible] def PNk(E:SynE)(I:List Item)(j:Nat)(a:Int)(κ:List Prt->Prop)(e:Ending)(W':World):Prop :=
 (∃g k gs ps,∃i:Nat,e=.returned (ptrV g)/\St E W' i (.done g k gs ps::I)/\j<=i/\(ps.length:Int)<=8*((i:Int)-j)+a/\κ ps)\/(∃i:Nat,e=panE i/\St E W' i I)
abbrev KT:List Prt->Prop:=λ_=>True
abbrev PNd(E:SynE)(I:List Item)(j:Nat)(a:Int):Ending->World->Prop:=PNk E I j a KT
@[irreducible] def PW(E:SynE)(I:List Item)(j:Nat)(ok:Bool)(e:Ending)(W':World):Prop :=
 (ok=true/\e=.returned (.tuple #[])/\St E W' (j+1) I)\/(ok=false/\e=panE j/\St E W' j I)
abbrev QE(v:Value)(W:World)(e:Ending)(W':World):Prop:=e=.returned v/\Below W.heap.size W W'
end Go.Proofs.YtfpjdpdmgceciaaGreatDoor
namespace Go.Proofs.YtfpjdpdmgceciaaGreatDoor
set_option maxRecDepth 100000
set_option maxHeartbeats 32000000
set_option linter.all false
attribute [local irreducible] Calls
open Go.RowKit
structure SynT(E:SynE):Prop where
 T:TokRow E.w0 E.vt E.toks
 ok:∀t∈E.toks,(0<=t.1/\t.1<256)/\t.2.1<=t.2.2/\t.2.2<=E.s.size
 n:E.toks.length<=1000000
 sz:E.s.size<=1000000
theorem zLc{E:SynE}(F:SynT E){W:World}{j:Nat}(h:Rd E W j)(i:Int)(hi:-1000000000<=i/\i<=1000000000) :
  Calls Tryz.prog 14 #[ptrV E.gr,.int .i64 i] W (QE (.string (wordZ E i)) W):=by
 obtain⟨q0,q1,q2,q3,⟨t,q4⟩,qz⟩:=h.c;obtain⟨a,cap,hv,hcap,hT⟩:=F.T.below h.below;rw[hv]at q1;have hN:(E.toks.length:Int)<=1000000:=by have:=F.n;omega
 have HB:Hid (Below W.heap.size W W):=Hd (bR _ _);clear q2 q3 q4;by_cases c:i<0
 .have e:wordZ E i=ByteArray.empty:=by unfold wordZ;rw[iP (Or.inl c)]
  rw[e];clear hv hT h F;go_enter Tryz.func14,Tryz.ntmps14;go_wp2;go_ret;exact⟨rfl,HB.out⟩
 obtain⟨n,rfl⟩:∃n:Nat,i=n:=⟨i.toNat,Z⟩;by_cases c2:n<E.toks.length
 .obtain⟨b,rfl,hbl,hc⟩:=hT Z;obtain⟨c0,c1,c2'⟩:=hc n c2;obtain⟨⟨o1,o2⟩,o3,o4⟩:=F.ok _ (gM c2);have hz:=F.sz;have hw:wordZ E n=if E.toks[n].1=9 then⟨#[59]⟩else if E.toks[n].1=8\/E.toks[n].1=2 then E.s.extract E.toks[n].2.1 E.toks[n].2.2 else ByteArray.empty:=by
   unfold wordZ;rw[iN (by unfold SynE.N;omega)];simp[c2]
  have HW:=Hd hw;have hgl:=h.lt;clear hw hv hT hc h F;generalize wordZ E n=wd at *;generalize E.toks[n].1=kk at *;generalize E.toks[n].2.1=fr at *;generalize E.toks[n].2.2=tx at *;have hn1:(n:Int)<E.toks.length:=Z;have hn2:¬E.toks.length<=n:=Z;have r2:decide (tx<fr)=false:=decide_eq_false Z;have r3:decide (E.s.size<tx)=false:=decide_eq_false Z;have r4:¬(tx:Int)<fr:=Z;have r5:¬(E.s.size:Int)<tx:=Z;have HA:Hid (Below W.heap.size W (W.alloc (.cells #[.int .u8 kk,.int .i64 (fr:Int),.int .i64 (tx:Int)] 52))):=Hd ((bR _ _).alloc (nR _) _);have HD:∀q:Nat,Hid (Below W.heap.size W ((W.alloc (.cells #[.int .u8 kk,.int .i64 (fr:Int),.int .i64 (tx:Int)] 52)).drewN q)):=λq=>Hd (below_drewN HA.out q)
  by_cases k9:kk=9
  .subst k9;obtain rfl:=HW.out;go_enter Tryz.func14,Tryz.ntmps14;go_wp2;go_ret;exact⟨rfl,HA.out⟩
  have n9:(kk==9)=false:=by simpa using k9
  by_cases k8:kk=8\/kk=2
  .have HW2:=Hd (HW.out.trans (by rw[iN k9,iP k8]):wd=E.s.extract fr tx);obtain rfl:=HW2.out;rcases k8 with rfl|rfl;all_goals
    go_enter Tryz.func14,Tryz.ntmps14;go_wp2;go_quiet (fail);go_wp2;go_ret;exact⟨rfl,(HD _).out⟩
  .have HW2:=Hd (HW.out.trans (by rw[iN k9,iN k8]):wd=ByteArray.empty);obtain rfl:=HW2.out;have n8:(kk==8)=false:=by simp;omega
   have n2:(kk==2)=false:=by simp;omega
   go_enter Tryz.func14,Tryz.ntmps14;go_wp2;go_ret;exact⟨rfl,HA.out⟩
 .have e:wordZ E n=ByteArray.empty:=by unfold wordZ;rw[iP (Or.inr (by unfold SynE.N;omega))]
  rw[e];have hn1:¬(n:Int)<E.toks.length:=Z;clear hv hT h F;go_enter Tryz.func14,Tryz.ntmps14;go_wp2;go_ret;exact⟨rfl,HB.out⟩
theorem yX{E:SynE}(F:SynF E){W:World}{j:Nat}(h:Rd E W j)(i:Int)(hi:-1000000000<=i/\i<=1000000000) :
  Calls Tryz.prog 14 #[ptrV E.gr,.int .i64 i] W (QE (.string (wordZ E i)) W) :=
 zLc ⟨F.T,F.ok,F.n,F.sz⟩ h i hi
def namedB(E:SynE)(i:Int):Bool:=kindZ E i==1
def quotedB(E:SynE)(i:Int):Bool:=kindZ E i==7
def litK(E:SynE)(i:Int):Bool:=decide (3<=kindZ E i)&&decide (kindZ E i<=7)
theorem yAs{E:SynE}{j:Nat}(h:namedB E j=true):j<E.N:=zMq (by unfold namedB at h;intro e;rw[e]at h;cases h)
theorem zWx{E:SynE}{j:Nat}(h:quotedB E j=true):j<E.N:=zMq (by unfold quotedB at h;intro e;rw[e]at h;cases h)
theorem yHp{E:SynE}{j:Nat}(h:litK E j=true):j<E.N:=zMq (by unfold litK at h;intro e;rw[e]at h;cases h)
theorem yAt{E:SynE}{j:Nat}(h:litK E j=true):kOK E 27 j 0:=⟨V,λ_=>⟨λe=>(by cases e),λ_=>by unfold litK at h;simpa using h⟩⟩
def endedB(E:SynE)(j:Nat):Bool:=decide (j=E.N)
section
variable {E:SynE} {W:World} {j:Nat}
theorem zIc(F:SynF E)(h:Rd E W j)(i:Int)(hi:-1000000000<=i/\i<=1000000000):Calls Tryz.prog 143 #[ptrV E.gr,.int .i64 i] W (QE (.int .u8 (kindZ E i)) W):=by
 obtain⟨q0,q1,q2,q3,⟨t,q4⟩,qz⟩:=h.c;obtain⟨a,cap,hv,hcap,hT⟩:=F.T.below h.below;rw[hv]at q1;have hN:(E.toks.length:Int)<=1000000:=by have:=F.n;omega
 have HB:Hid (Below W.heap.size W W):=Hd (bR _ _);clear q2 q3 q4;by_cases c:i<0
 .have e:kindZ E i=0:=by unfold kindZ;rw[iP (Or.inl c)]
  rw[e];clear hv hT h F;go_enter Tryz.func143,Tryz.ntmps143;go_wp2;go_ret;exact⟨rfl,HB.out⟩
 obtain⟨n,rfl⟩:∃n:Nat,i=n:=⟨i.toNat,Z⟩;by_cases c2:n<E.toks.length
 .obtain⟨b,rfl,hbl,hc⟩:=hT Z;obtain⟨c0,c1,c2'⟩:=hc n c2;have hw:kindZ E n=E.toks[n].1:=by
   unfold kindZ;rw[iN (by unfold SynE.N;omega)];simp[c2]
  rw[hw];clear hw hv hT hc h F c1 c2';generalize E.toks[n].1=kk at *;have hn1:(n:Int)<E.toks.length:=Z;have hn2:¬E.toks.length<=n:=Z;go_enter Tryz.func143,Tryz.ntmps143;go_wp2;go_ret;exact⟨rfl,HB.out⟩
 .have e:kindZ E n=0:=by unfold kindZ;rw[iP (Or.inr (by unfold SynE.N;omega))]
  rw[e];have hn1:¬(n:Int)<E.toks.length:=Z;clear hv hT h F;go_enter Tryz.func143,Tryz.ntmps143;go_wp2;go_ret;exact⟨rfl,HB.out⟩
theorem Rd.jn(F:SynF E)(h:Rd E W j):-1000000000<=(j:Int)/\(j:Int)<=1000000000:=by have:=h.le;have:=F.n;unfold SynE.N at *;omega
theorem gO(F:SynF E)(h:Rd E W j):Calls Tryz.prog 61 #[ptrV E.gr] W (QE (.string (wordZ E j)) W):=by
 have C:=Hd (yX F h j (h.jn F));have c3:=h.c3;clear h F;generalize wordZ E j=x at *;go_enter Tryz.func61,Tryz.ntmps61;go_wp2_with fail;refine C.out.mono ?_;rintro e w' ⟨rfl,hb⟩;go_wp2_with fail;go_ret;exact⟨rfl,hb⟩
theorem xS(F:SynF E)(h:Rd E W j)(i:Int)(hi:-1000000000<=i/\i<=1000000000):Calls Tryz.prog 91 #[ptrV E.gr,.int .i64 i] W (QE (.bool (namedB E i)) W):=by
 have C:=Hd (zIc F h i hi);clear h F;unfold namedB;generalize kindZ E i=x at *;go_enter Tryz.func91,Tryz.ntmps91;go_wp2_with fail;refine C.out.mono ?_;rintro e w' ⟨rfl,hb⟩;go_wp2_with fail;go_ret;exact⟨rfl,hb⟩
theorem zDb(F:SynF E)(h:Rd E W j)(i:Int)(hi:-1000000000<=i/\i<=1000000000):Calls Tryz.prog 174 #[ptrV E.gr,.int .i64 i] W (QE (.bool (quotedB E i)) W):=by
 have C:=Hd (zIc F h i hi);clear h F;unfold quotedB;generalize kindZ E i=x at *;go_enter Tryz.func174,Tryz.ntmps174;go_wp2_with fail;refine C.out.mono ?_;rintro e w' ⟨rfl,hb⟩;go_wp2_with fail;go_ret;exact⟨rfl,hb⟩
theorem fE(F:SynF E)(h:Rd E W j)(i:Int)(hi:-1000000000<=i/\i<=1000000000):Calls Tryz.prog 217 #[ptrV E.gr,.int .i64 i] W (QE (.bool (litK E i)) W):=by
 have C:=Hd (λW' (h':Rd E W' j)=>zIc F h' i hi);have HR:=Hd h;clear h F;unfold litK;generalize kindZ E i=x at *;by_cases h1:3<=x
 .go_enter Tryz.func217,Tryz.ntmps217;go_wp2_with fail;refine(C.out W HR.out).mono ?_;rintro e w' ⟨rfl,hb⟩;have HB:=Hd hb;clear hb;go_wp2_with fail;refine(C.out w' (HR.out.ext HB.out)).mono ?_;rintro e w2 ⟨rfl,hb2⟩;go_wp2_with fail;go_ret;exact⟨by simp[h1],HB.out.trans (hb2.mono HB.out.size)⟩
 .go_enter Tryz.func217,Tryz.ntmps217;go_wp2_with fail;refine(C.out W HR.out).mono ?_;rintro e w' ⟨rfl,hb⟩;go_wp2_with fail;go_ret;exact⟨by simp[h1];omega,hb⟩
theorem fQ(F:SynF E)(h:Rd E W j):Calls Tryz.prog 39 #[ptrV E.gr] W (QE (.bool (endedB E j)) W):=by
 obtain⟨q0,q1,q2,q3,⟨t,q4⟩,qz⟩:=h.c;obtain⟨a,cap,hv,hcap,hT⟩:=F.T;rw[hv]at q1;have HB:Hid (∀n,Below W.heap.size W (W.drewN n)):=Hd (λn=>below_drewN (bR _ _) n);have hN:(E.toks.length:Int)<=1000000:=by have:=F.n;omega
 unfold endedB SynE.N;clear q0 q2 q4 hv hT h F;go_enter Tryz.func39,Tryz.ntmps39;go_wp2_with fail;go_quiet (fail);go_wp2_with fail;go_ret;exact⟨zX (by rw[Bool.eq_iff_iff];simp;omega),HB.out _⟩
theorem fR(h:Rd E W j):Calls Tryz.prog 40 #[ptrV E.gr] W (λe W'=>e=panE j/\Below W.heap.size W W'):=by
 have c3:=h.c3;have HB:Hid (Below W.heap.size W W):=Hd (bR _ _);clear h;go_enter Tryz.func40,Tryz.ntmps40;go_wp2_with fail;exact⟨rfl,rfl,HB.out⟩
end
end Go.Proofs.YtfpjdpdmgceciaaGreatDoor
