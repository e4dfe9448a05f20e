/- Small lemmas on worlds, strings and conversions that all walks of this seat use. They hold for this seat's program without any condition. -/
import Derived.Test.YtfpjdpdmgceciaaGreatDoorProg
import Derived.WalkKit
import Derived.WalkSpells
import Derived.WalkLawsBesides
import Derived.Handy
import Derived.Outline
import Derived.Lib.Hide
import Derived.Lib.OthersKept
import Derived.Laws.AppendOwnNone
import Derived.Laws.BytesArg
namespace Go.Proofs.YtfpjdpdmgceciaaGreatDoor
theorem Z{p:Prop}(h:p:=by omega):p:=h
theorem V{p:Prop}(h:p:=by decide):p:=h
theorem Oa{p:Prop}(h:p:=by kernel_rfl):p:=h
theorem Ob{p:Prop}(h:p:=by simp):p:=h
theorem Hd{p:Prop}(h:p):Go.RowKit.Hid p:=h
open Go.RowKit
theorem lA{α:Type _}{a b:List α}:(a++b).length=a.length+b.length:=List.length_append
theorem lC{α:Type _}{a:α}{b:List α}:(a::b).length=b.length+1:=rfl
theorem lN{α:Type _}:([]:List α).length=0:=rfl
theorem bE{α:Type _}[BEq α][LawfulBEq α]{a b:α}:(a==b)=false↔a≠b:=beq_eq_false_iff_ne
theorem gE{α:Type _}{l:List α}{i:Nat}(h:i<l.length):l[i]?=some l[i]:=List.getElem?_eq_getElem h
theorem nR(n:Nat):n<=n:=Nat.le_refl n
theorem bR(g:Nat)(w:World):Below g w w:=Below.refl g w
theorem iN{c:Prop}{h:Decidable c}(hc:¬c){α:Sort _}{t e:α}:ite c t e=e:=if_neg hc
theorem iP{c:Prop}{h:Decidable c}(hc:c){α:Sort _}{t e:α}:ite c t e=t:=if_pos hc
theorem gD{α:Type _}{l:List α}{i:Nat}{a:α}:l.getD i a=l[i]?.getD a:=List.getD_eq_getElem?_getD
theorem gM{α:Type _}{l:List α}{n:Nat}(h:n<l.length):l[n]∈l:=List.getElem_mem h
theorem zZi(w:World)(C:Array Value)(e:TypeId)(xs:List Int)(h:C=(xs.map (Value.int .u8)).toArray)(i:Nat)(hi:i<xs.length) :
  (w.alloc (.cells C e)).cell? ⟨w.heap.size,0+i,none⟩=some (.int .u8 (xs.getD i 0)):=by
 subst h;rw[World.cell?_alloc_at _ _ _ _ rfl];simp[hi]
theorem gJ(w:World)(C:Array Value)(xs:List Int)(n c:Nat)(h:C=(xs.map (Value.int .u8)).toArray)(hn:xs.length=n) :
  (convert 92 9 (.slice (some ⟨w.heap.size,0,none⟩) n c)).run Tryz.prog (w.alloc (.cells C 5))=.ok (.string (strOfNums xs)) (w.alloc (.cells C 5)):=by
 refine run_convert_bytes_arg _ 92 5 Tryz.underlying92 Tryz.underlying5 _ 0 n c xs hn (λi hi=>?_) 9 Tryz.underlying9;exact zZi w C 5 xs h i (by omega)
theorem zX{a b:Bool}(h:a=b):Ending.returned (.bool a)=.returned (.bool b):=by rw[h]
theorem zGt{a b:ByteArray}(h:a=b):Ending.returned (.string a)=.returned (.string b):=by rw[h]
theorem zAg{k:IntKind}{a b:Int}(h:a=b):Ending.returned (.int k a)=.returned (.int k b):=by rw[h]
theorem xL{k l:IntKind}{a b c d:Int}(h:a=b)(g:c=d):Ending.returned (.tuple #[.int k a,.int l c])=.returned (.tuple #[.int k b,.int l d]):=by rw[h,g]
def iterLeft(k:Nat)(w:World):Nat:=match w.heap[k]? with
 |some (.stringIter s pos)=>s.size-pos
 |_=>0
theorem yD{w:World}{k:Nat}{s:ByteArray}{pos:Nat}(h:w.heap[k]?=some (.stringIter s pos)):iterLeft k w=s.size-pos:=by
 unfold iterLeft;rw[h]
theorem keeps{w w':World}(hb:Below w.heap.size w w'){k:Nat}{o:Obj}(h:w.heap[k]?=some o):w'.heap[k]?=some o:=by
 rw[hb.block k (Array.getElem?_eq_some_iff.1 h).1];exact h
theorem zD{w a b:World}(h:Below w.heap.size w a)(k:Below a.heap.size a b):Below w.heap.size w b:=h.trans (k.mono h.size)
theorem yH{w:World}{k:Nat}{o:Obj}(h:w.heap[k]?=some o):k<w.heap.size:=(Array.getElem?_eq_some_iff.1 h).1
section
variable {P:Program}
theorem zQ{ops:Array Oper}{rest:List Oper}{o:Oper}{a:Act}{Q:Exit->Act->World->Prop}(w0:World)(C:Array Value)(e':TypeId)(hgd:o.guard=none)(s x:Operand)(t e:TypeId)(ho:o.op=.call { callee:=.builtin .append,args:=#[s,x],argTypes:=#[t,t] })(ht:P.underlying t=some (.slice e))(base:Nat){z:Value}{size bytes:Nat}(hinfo:(P.info? e).map (λi=>(i.zero,i.size,i.bytes))=some (some z,size,bytes))(hzs:z.cells.size=size)(hsz:0<size)(v:Value)(n:Nat)(xs:List Value)(hs:a.eval s=v)(hown:w0.ownsRow base e size v n xs)(m c:Nat)(hx:a.eval x=.slice (some ⟨w0.heap.size,0,none⟩) m c)(hl:C.size=m*size)(hm:0<m)(h1:∀u∈C.toList,u.oneCell'=true)(h63:n+m<=140737488355328)(hbytes:(n+m)*bytes<=140737488355328)(hbase:base<=w0.heap.size)(h:∀v' w',w'.ownsRow base e size v' (n+m) (xs++C.toList)->(w0.alloc (.cells C e')).grownBy w' v.ownBlock->v'≠.slice none 0 0->wpList P ops Q rest (a.put o.dst v') w') :
  wpList P ops Q (o::rest) a (w0.alloc (.cells C e')):=by
 obtain⟨i,hi,hz0,hz1,hz2⟩:=info_parts hinfo;refine wpList_append_own (w:=w0.alloc (.cells C e')) hgd s x t ho base e i z size bytes ht hi hz0 hz1 hz2 hzs hsz v n xs hs (hown.alloc _) ⟨w0.heap.size,0,none⟩ m c C.toList hx (by simpa using hl) ?_ h1 ?_ hbytes (by simp;omega) ?_
 .intro j u hj;have e1:(⟨w0.heap.size,0,none⟩:Addr).add j=⟨w0.heap.size,j,none⟩:=by simp[Addr.add];omega
  rw[e1,World.cell?_alloc_at _ _ _ _ rfl]
  simpa using hj
 .unfold maxLen;omega
 .intro v' w' g1 g2 g3;exact h v' w' g1 g2 (λe=>by have:=(g3.1 e).2;omega)
end
theorem xM{w0 w':World}{o:Obj}{B:Nat}{a:World}{v:Value}{e:TypeId}{size n:Nat}{xs:List Value}(hb:Below B a w0)(hB:B<=w0.heap.size)(hown:w0.ownsRow B e size v n xs)(hg:(w0.alloc o).grownBy w' v.ownBlock):Below B a w' :=
 (hb.alloc hB o).grown hg (by simp;omega) (λk hk=>(hown.lt k hk).1)
theorem yM{w w':World}{B:Nat}{v:Value}{e:TypeId}{size n:Nat}{xs:List Value}(h:w.ownsRow B e size v n xs)(hb:Below w.heap.size w w'):w'.ownsRow B e size v n xs:=by
 obtain⟨h1,h2⟩:=h;refine⟨h1,?_⟩;rcases h2 with h2|⟨g,cap,cur,hv,hg,hh,r⟩
 .exact Or.inl h2
 .exact Or.inr ⟨g,cap,cur,hv,hg,keeps hb hh,r⟩
theorem zI{w:World}{B:Nat}{v:Value}{e:TypeId}{size n:Nat}{xs:List Value}(h:w.ownsRow B e size v n xs):∃a m c,v=.slice a m c:=by
 rcases h.2 with⟨hv,_⟩|⟨g,cap,cur,hv,_⟩
 .exact⟨_,_,_,hv⟩
 .exact⟨_,_,_,hv⟩
theorem jZ{w:World}{B B':Nat}{v:Value}{e:TypeId}{size n:Nat}{xs:List Value}(h:w.ownsRow B e size v n xs)(hB:B'<=B):w.ownsRow B' e size v n xs:=by
 obtain⟨h1,h2⟩:=h;refine⟨h1,?_⟩;rcases h2 with h2|⟨g,cap,cur,hv,hg,hh,r⟩
 .exact Or.inl h2
 .exact Or.inr ⟨g,cap,cur,hv,Nat.le_trans hB hg,hh,r⟩
def Row(w:World)(v:Value)(n sz:Nat)(cs:List Value):Prop :=
 cs.length=n*sz/\∃a cap,v=.slice a n cap/\n<=cap/\(a=none->cap=0)/\(0<n->∃b off,a=some ⟨b,off,none⟩/\b<w.heap.size/\∀i,i<n*sz->w.cell? ⟨b,off+i,none⟩=cs[i]?)
theorem Row.below{w w':World}{v:Value}{n sz:Nat}{cs:List Value}(h:Row w v n sz cs)(hb:Below w.heap.size w w'):Row w' v n sz cs:=by
 obtain⟨h1,a,cap,hv,hc,hz,h2⟩:=h;refine⟨h1,a,cap,hv,hc,hz,λhn=>?_⟩;obtain⟨b,off,ha,hlt,hcell⟩:=h2 hn;exact⟨b,off,ha,Nat.lt_of_lt_of_le hlt hb.size,λi hi=>by rw[hb.cell (p:=⟨b,off+i,none⟩) hlt];exact hcell i hi⟩
theorem Row.of_owns{w:World}{B:Nat}{v:Value}{e:TypeId}{size n:Nat}{xs:List Value}(h:w.ownsRow B e size v n xs):Row w v n size xs:=by
 refine⟨h.1,?_⟩;rcases h.2 with⟨hv,hn⟩|⟨g,cap,cur,hv,hg,hh,hnc,_,hcs,htk⟩
 .subst hn;exact⟨none,0,hv,nR _,λ_=>rfl,λh=>absurd h (by omega)⟩
 .refine⟨some ⟨g,0,none⟩,cap,hv,hnc,(by simp),λ_=>⟨g,0,rfl,yH hh,λi hi=>?_⟩⟩;have hown:w.ownsRow B e size (.slice (some ⟨g,0,none⟩) n cap) n xs:=hv▸h;rw[Nat.zero_add];exact hown.cellAt i hi
theorem gK{w:World}{B:Nat}{v:Value}{n:Nat}{xs:List Int}(h:w.ownsRow B 5 1 v n (xs.map (Value.int .u8))) :
  (convert 92 9 v).run Tryz.prog w=.ok (.string (strOfNums xs)) w:=by
 have hl:xs.length=n:=by have:=h.1;simpa using this
 rcases h.2 with⟨hv,hn⟩|⟨g,cap,cur,hv,hg,hh,hnc,_,hcs,htk⟩
 .subst hv;subst hn;have hx:xs=[]:=List.eq_nil_of_length_eq_zero hl;subst hx;exact run_convert_bytes_nil (P:=Tryz.prog) (w:=w) 92 5 Tryz.underlying92 Tryz.underlying5 0 0 9 Tryz.underlying9
 .have hown:w.ownsRow B 5 1 (.slice (some ⟨g,0,none⟩) n cap) n (xs.map (Value.int .u8)):=hv▸h;subst hv;refine run_convert_bytes_arg _ 92 5 Tryz.underlying92 Tryz.underlying5 g 0 n cap xs hl (λi hi=>?_) 9 Tryz.underlying9;rw[Nat.zero_add,hown.cellAt i (by omega)];simp[hl▸hi]
def zK(w:World)(v:Value)(k:IntKind)(l:List Int):Prop:=Row w v l.length 1 (l.map (Value.int k))
theorem zK.below{w w':World}{v:Value}{k:IntKind}{l:List Int}(h:zK w v k l)(hb:Below w.heap.size w w'):zK w' v k l:=Row.below h hb
theorem zK.open'{w:World}{v:Value}{k:IntKind}{l:List Int}(h:zK w v k l) :
  ∃a cap,v=.slice a l.length cap/\l.length<=cap/\(0<l.length->∃b off,a=some ⟨b,off,none⟩/\b<w.heap.size/\∀i (hi:i<l.length),w.cell? ⟨b,off+i,none⟩=some (.int k l[i])):=by
 obtain⟨_,a,cap,hv,hc,_,h2⟩:=h;refine⟨a,cap,hv,hc,λhn=>?_⟩;obtain⟨b,off,ha,hlt,hcell⟩:=h2 hn;refine⟨b,off,ha,hlt,λi hi=>?_⟩;rw[hcell i (by omega)];simp[hi]
theorem zK.of_owns{w:World}{B:Nat}{v:Value}{e:TypeId}{n:Nat}{k:IntKind}{l:List Int}(h:w.ownsRow B e 1 v n (l.map (Value.int k))):zK w v k l:=by
 have h1:=Row.of_owns h;have hl:l.length=n:=by have:=h.1;simpa using this
 unfold zK;rw[hl];exact h1
set_option linter.all false
open Go
theorem wI{z y:Int}(h:z=y∧-9223372036854775808<=z/\z<9223372036854775808):IntKind.i64.wrap z=y:=by rw[IntKind.wrap_i64];omega
theorem mB{P:Program}{f:FuncId}{args:Array Value}{w w0:World}{v:Ending}{Q:Ending->World->Prop}(h:Calls P f args w λe w'=>e=v/\Below w.heap.size w w')(hb:Below w0.heap.size w0 w)(k:∀w',RowKit.Hid (Below w0.heap.size w0 w')->Q v w'):Calls P f args w Q :=
 h.mono λe w' g=>by obtain⟨rfl,g⟩:=g;exact k w' (Hd (zD hb g))
end Go.Proofs.YtfpjdpdmgceciaaGreatDoor
namespace Go.Proofs.YtfpjdpdmgceciaaGreatDoor
set_option linter.all false
abbrev Prt:=Nat×Int×ByteArray
def zC:List Prt->Option (List Nat)
 |[]=>some []
 |p::r=>match zC r with
  |none=>none
  |some ts=>if 0<=p.2.1/\p.2.1<=(ts.length:Int)then some ((1+(ts.take p.2.1.toNat).sum)::ts.drop p.2.1.toNat)else none
theorem xJ:zC []=some []:=rfl
theorem yC{p:Prt}{r:List Prt}{ts:List Nat}(h:zC r=some ts)(h0:0<=p.2.1)(h1:p.2.1<=(ts.length:Int)):zC (p::r)=some ((1+(ts.take p.2.1.toNat).sum)::ts.drop p.2.1.toNat):=by
 rw[zC,h];exact iP ⟨h0,h1⟩
theorem zLt{p:Prt}{r:List Prt}{ts:List Nat}(h:zC r=some ts)(h0:¬(0<=p.2.1/\p.2.1<=(ts.length:Int))):zC (p::r)=none:=by
 rw[zC,h];exact iN h0
theorem zUf{p:Prt}{r:List Prt}(h:zC r=none):zC (p::r)=none:=by rw[zC,h]
theorem jA{p:Prt}{r:List Prt}{q:List Nat}(h:zC (p::r)=some q):∃ts,zC r=some ts/\0<=p.2.1/\p.2.1<=(ts.length:Int)/\q=(1+(ts.take p.2.1.toNat).sum)::ts.drop p.2.1.toNat:=by
 cases hr:zC r with
 |none=>rw[zUf hr]at h;cases h
 |some ts =>
  by_cases hc:0<=p.2.1/\p.2.1<=(ts.length:Int)
  .rw[yC hr hc.1 hc.2]at h;exact⟨ts,rfl,hc.1,hc.2,(Option.some.inj h).symm⟩
  .rw[zLt hr hc]at h;cases h
theorem kO:∀(l:List Nat)(a b:Nat),(l.take (a+b)).sum=(l.take a).sum+((l.drop a).take b).sum
 |[],a,b=>by simp
 |x::l,0,b=>by simp
 |x::l,a+1,b=>by
  rw[show a+1+b=(a+b)+1 by omega,List.take_succ_cons,List.take_succ_cons,List.drop_succ_cons,List.sum_cons,List.sum_cons,kO l a b];omega
theorem zYn(l:List Nat)(k:Nat):l.sum=(l.take k).sum+(l.drop k).sum:=by
 conv=>lhs;rw[<-List.take_append_drop k l]
 rw[List.sum_append]
theorem yL:∀{l:List Prt}{ts:List Nat},zC l=some ts->ts.sum=l.length/\ts.length<=l.length/\∀t∈ts,0<t
 |[],ts,h=>by rw[xJ]at h;cases h;simp
 |p::r,ts,h=>by
  obtain⟨us,h1,h2,h3,rfl⟩:=jA h;obtain⟨g1,g2,g3⟩:=yL h1;have hs:=zYn us p.2.1.toNat;refine⟨by rw[List.sum_cons,lC];omega,by rw[lC,lC,List.length_drop];omega,λt ht=>?_⟩;rcases List.mem_cons.1 ht with rfl|ht
  .omega
  .exact g3 t (List.mem_of_mem_drop ht)
theorem zUg{p:Prt}{r:List Prt}{q:List Nat}(h:zC (p::r)=some q):∃ts,zC r=some ts:=by
 obtain⟨ts,h1,_⟩:=jA h;exact⟨ts,h1⟩
theorem kD:∀{l:List Prt}{ts:List Nat},zC l=some ts->∀i,∃us,zC (l.drop i)=some us
 |[],ts,h,i=>⟨[],by rw[List.drop_nil];rfl⟩
 |p::r,ts,h,0=>⟨ts,h⟩
 |p::r,ts,h,i+1=>by
  obtain⟨us,h1⟩:=zUg h;rw[List.drop_succ_cons];exact kD h1 i
theorem zAs:∀{l:List Prt}{ts:List Nat}(k:Nat),zC l=some ts->k<=ts.length->zC (l.drop (ts.take k).sum)=some (ts.drop k)
 |[],ts,k,h,hk=>by
  rw[xJ]at h;cases h;simp at hk;subst hk;rfl
 |p::r,ts,0,h,hk=>by simpa using h
 |p::r,ts,k+1,h,hk=>by
  obtain⟨us,h1,h2,h3,rfl⟩:=jA h;rw[lC,List.length_drop]at hk;rw[List.take_succ_cons,List.sum_cons,List.drop_succ_cons,List.drop_drop];have h4:=zAs (p.2.1.toNat+k) h1 Z;rw[kO]at h4;rw[show 1+(us.take p.2.1.toNat).sum+((us.drop p.2.1.toNat).take k).sum=((us.take p.2.1.toNat).sum+((us.drop p.2.1.toNat).take k).sum)+1 by omega,List.drop_succ_cons];exact h4
def headSize(l:List Prt):Nat:=match zC l with
 |some (t::_)=>t
 |_=>0
theorem yY{l:List Prt}{t:Nat}{ts:List Nat}(h:zC l=some (t::ts)):headSize l=t:=by unfold headSize;rw[h]
def zB(l:List Prt)(i:Nat):Nat:=i+headSize (l.drop i)
def zT(l:List Prt):Bool:=match zC l with
 |some [_]=>true
 |_=>false
theorem xK{l:List Prt}:zT l=true↔zC l=some [l.length]:=by
 unfold zT;constructor
 .intro h;split at h
  .rename_i x hx;have:=(yL hx).1;simp at this;rw[hx,this]
  .cases h
 .intro h;rw[h]
def endR(len:Nat):List Prt->Nat->Nat->Option Nat
 |_,0,i=>some i
 |[],_+1,_=>none
 |p::r,n+1,i=>if 0<=p.2.1/\p.2.1<=(len:Int)then endR len r (n+p.2.1.toNat) (i+1)else none
theorem fZ(len:Nat)(l:List Prt)(i:Nat):endR len l 0 i=some i:=by cases l<;>rfl
theorem zCm(len:Nat):∀{l:List Prt}{ts:List Nat},zC l=some ts->l.length<=len->∀n i,endR len l n i=if n<=ts.length then some (i+(ts.take n).sum)else none
 |[],ts,h,_,n,i=>by
  rw[xJ]at h;cases h;cases n with
  |zero=>rw[fZ];simp
  |succ n=>rw[endR,iN Ob]
 |p::r,ts,h,hl,0,i=>by rw[fZ];simp
 |p::r,ts,h,hl,n+1,i=>by
  obtain⟨us,h1,h2,h3,rfl⟩:=jA h;rw[lC]at hl;have hus:=(yL h1).2.1;rw[endR,iP ⟨h2,Z⟩,zCm len h1 Z];rw[lC,List.length_drop];by_cases hc:n+p.2.1.toNat<=us.length
  .rw[iP hc,iP Z,List.take_succ_cons,List.sum_cons,Nat.add_comm n,kO]
   congr 1;omega
  .rw[iN hc,iN Z]
theorem zNy(len:Nat):∀(l:List Prt)(n i e:Nat),endR len l n i=some e->i<=e/\e<=i+l.length
 |l,0,i,e,h=>by rw[fZ]at h;cases h;omega
 |[],n+1,i,e,h=>by rw[endR]at h;cases h
 |p::r,n+1,i,e,h=>by
  rw[endR]at h;split at h
  .have:=zNy len r _ _ _ h;rw[lC];omega
  .cases h
theorem jX(len:Nat):∀(l:List Prt)(n i e:Nat),endR len l n i=some e->∃ts,zC (l.take (e-i))=some ts/\ts.length=n
 |l,0,i,e,h=>by rw[fZ]at h;cases h;rw[Nat.sub_self,List.take_zero];exact⟨[],rfl,rfl⟩
 |[],n+1,i,e,h=>by rw[endR]at h;cases h
 |p::r,n+1,i,e,h=>by
  rw[endR]at h;split at h
  .rename_i hc;obtain⟨us,h1,h2⟩:=jX len r _ _ _ h;have hle:=zNy len r _ _ _ h;rw[show e-i=(e-(i+1))+1 by omega,List.take_succ_cons,yC h1 hc.1 Z];exact⟨_,rfl,by rw[lC,List.length_drop];omega⟩
  .cases h
theorem zYo{l:List Prt}:(0<l.length/\endR l.length l 1 0=some l.length)↔zT l=true:=by
 rw[xK];constructor
 .rintro⟨_,h⟩;obtain⟨ts,h1,h2⟩:=jX _ _ _ _ _ h;rw[Nat.sub_zero,List.take_length]at h1;have hs:=(yL h1).1;match ts,h2 with
  |[t],_=>simp at hs;rw[h1,hs]
 .intro h;have hs:=(yL h).2.2 l.length Ob;refine⟨hs,?_⟩;rw[zCm _ h (nR _),iP Ob];simp
theorem zCn{a b:List Prt}{us ts:List Nat}(h:zC a=some us)(g:zC b=some ts):zC (a++b)=some (us++ts):=by
 induction a generalizing us with
 |nil=>rw[xJ]at h;cases h;simpa using g
 |cons p r ih =>
  obtain⟨vs,v1,v2,v3,rfl⟩:=jA h;have:=ih v1;rw[List.cons_append,yC this v2 (by rw[lA];omega),List.take_append_of_le_length Z,List.drop_append_of_le_length Z];rfl
def zAv(l:List Prt):Int:=match zC l with
 |some ts=>(ts.length:Int)
 |none=>-1
def starts(i:Nat):List Nat->List Nat
 |[]=>[]
 |t::ts=>i::starts (i+t) ts
theorem vL:∀(ts:List Nat)(i:Nat),(starts i ts).length=ts.length
 |[],_=>rfl
 |t::ts,i=>by rw[starts,lC,lC,vL]
theorem zGm:∀(ts:List Nat)(i k:Nat),k<=ts.length->(starts i ts).drop k=starts (i+(ts.take k).sum) (ts.drop k)
 |ts,i,0,_=>by simp
 |[],i,k+1,h=>by simp at h
 |t::ts,i,k+1,h=>by
  rw[starts,List.drop_succ_cons,zGm ts (i+t) k (by simpa using h),List.take_succ_cons,List.sum_cons,List.drop_succ_cons,Nat.add_assoc]
theorem zAt:∀(ts:List Nat)(i k:Nat),k<ts.length->(starts i ts).getD k 0=i+(ts.take k).sum
 |t::ts,i,0,_=>by simp[starts]
 |t::ts,i,k+1,h=>by
  rw[starts,List.getD_cons_succ,zAt ts (i+t) k (by simpa using h),List.take_succ_cons,List.sum_cons,Nat.add_assoc]
theorem zRf{p:Prt}{ts:List Nat}(i:Nat)(h1:p.2.1<=(ts.length:Int)):i::(starts (i+1) ts).drop p.2.1.toNat=starts i ((1+(ts.take p.2.1.toNat).sum)::ts.drop p.2.1.toNat):=by
 rw[starts,zGm _ _ _ Z]
 congr 1
 congr 1
 omega
theorem zNz{l:List Prt}{us:List Nat}(h:zC l=some us){i:Nat}(hi:i<l.length):∃t ts,zC (l.drop i)=some (t::ts)/\0<t/\zB l i=i+t/\i+t<=l.length:=by
 obtain⟨vs,hv⟩:=kD h i;have hs:=yL hv;rw[List.length_drop]at hs;match vs with
 |[]=>simp at hs;omega
 |t::ts =>
  have hp:=hs.2.2 t Ob;have h1:=hs.1;rw[List.sum_cons]at h1;exact⟨t,ts,hv,hp,by unfold zB;rw[yY hv],Z⟩
theorem zEm{l:List Prt}{us:List Nat}(h:zC l=some us){i:Nat}(hi:i<l.length):endR l.length (l.drop i) 1 i=some (zB l i):=by
 obtain⟨t,ts,h1,h2,h3,h4⟩:=zNz h hi;rw[zCm l.length h1 (by rw[List.length_drop];omega),iP Ob,h3];simp
theorem zS{l:List Prt}{us:List Nat}(h:zC l=some us){i:Nat}(hi:i<l.length):i<zB l i/\zB l i<=l.length:=by
 obtain⟨t,ts,h1,h2,h3,h4⟩:=zNz h hi;omega
theorem zZ{l:List Prt}(h:zT l=true):zC l=some [l.length]:=xK.1 h
theorem zAa{l:List Prt}(h:zT l=true):0<l.length/\zB l 0=l.length:=by
 have h1:=zZ h;have:=(yL h1).2.2 l.length Ob;refine⟨this,?_⟩;unfold zB;rw[List.drop_zero,yY h1];omega
def upI(l:List Prt)(i:Nat):Nat->Int
 |0=>-1
 |k+1=>if i<zB l k then(k:Int)else upI l i k
theorem zOa{l:List Prt}(hw:zT l=true){i:Nat}(hi:i<l.length):∀k,0<k->0<=upI l i k
 |1,_=>by
  rw[upI,iP (by rw[(zAa hw).2];exact hi)];omega
 |k+2,_=>by
  rw[upI];split
  .omega
  .exact zOa hw hi (k+1) Z
def kidsB(l:List Prt)(i:Nat):List Nat:=match zC (l.drop (i+1)),l[i]? with
 |some ts,some p=>(starts (i+1) ts).take p.2.1.toNat
 |_,_=>[]
theorem zDf{l:List Prt}{us:List Nat}(h:zC l=some us){i:Nat}(hi:i<l.length) :
  ∃ts q,zC (l.drop (i+1))=some ts/\(l[i]).2.1=((q:Nat):Int)/\q<=ts.length/\zB l i=i+1+(ts.take q).sum/\kidsB l i=(starts (i+1) ts).take q:=by
 obtain⟨vs,hv⟩:=kD h i;rw[List.drop_eq_getElem_cons hi]at hv;obtain⟨ts,h1,h2,h3,h4⟩:=jA hv;refine⟨ts,(l[i]).2.1.toNat,h1,Z,Z,?_,?_⟩
 .unfold zB;rw[List.drop_eq_getElem_cons hi];subst h4;rw[yY hv];omega
 .unfold kidsB;rw[h1,gE hi]
theorem zJm{l:List Prt}{us:List Nat}(h:zC l=some us){i:Nat}{ts:List Nat}{q n:Nat}(hts:zC (l.drop (i+1))=some ts)(hq:q<=ts.length)(hn:n<q) :
  i+1+(ts.take n).sum<l.length/\zB l (i+1+(ts.take n).sum)=i+1+(ts.take (n+1)).sum/\(starts (i+1) ts).take (n+1)=(starts (i+1) ts).take n++[i+1+(ts.take n).sum]/\(ts.take n).sum<(ts.take q).sum/\(ts.take n).sum<(ts.take (n+1)).sum/\(ts.take (n+1)).sum<=(ts.take q).sum:=by
 have hk:=zAs n hts Z;rw[List.drop_drop]at hk;have hd:ts.drop n=ts[n]::ts.drop (n+1):=List.drop_eq_getElem_cons Z;have hsum:(ts.take (n+1)).sum=(ts.take n).sum+ts[n]:=by rw[List.take_succ_eq_append_getElem Z,List.sum_append];simp
 have hpos:=(yL hts).2.2 ts[n] (gM Z);have hh:=yY (hk.trans (congrArg some hd));have h1:=(yL hk).1;rw[hd,List.sum_cons,List.length_drop]at h1;refine⟨Z,by unfold zB;rw[hh,hsum];omega,?_,?_⟩
 .have hz:=vL ts (i+1);rw[List.take_succ_eq_append_getElem Z];have:=zAt ts (i+1) n Z;rw[gD,gE Z]at this;simp only[Option.getD_some]at this;rw[this]
 refine⟨?_,Z,?_⟩
 .have:=kO ts (n+1) (q-(n+1));rw[show n+1+(q-(n+1))=q by omega]at this;omega
 .have:=kO ts (n+1) (q-(n+1));rw[show n+1+(q-(n+1))=q by omega]at this;omega
abbrev Hl:=ByteArray×Nat
def fM(k:Nat):Bool:=k==5 || k==7
def isSev(k:Nat):Bool:=k==6 || k==7
def jQ(f:List Prt)(p:Nat)(h:Hl):Bool :=
 if fM h.2 then (match f[p]?,f[p+1]? with
  |some a,some b=>a.1==50&&(b.1==26&&decide (b.2.2=h.1))
  |_,_=>false)
 else (match f[p]? with
  |some a=>a.1==26&&decide (a.2.2=h.1)
  |none=>false)
def vQ(f:List Prt)(hs:List Hl)(p:Nat):Option Nat:=hs.findIdx? (jQ f p)
def hkind(hs:List Hl)(h:Nat):Nat:=match hs[h]? with
 |some x=>x.2
 |none=>0
def sevOf(f:List Prt)(hs:List Hl)(p:Nat):Option Nat:=match vQ f hs p with
 |some h=>if isSev (hkind hs h)then some h else none
 |none=>none
def oneOf(f:List Prt)(hs:List Hl)(p:Nat):Option Nat:=match vQ f hs p with
 |some h=>if isSev (hkind hs h)then none else some h
 |none=>none
def mayB(hole k:Nat):Bool :=
 if hole=1 then decide (26<=k)&&(decide (k<=48)&&k != 38)
 else if hole=2 then k==26
 else if hole=3 then k==27
 else if hole=4 then k==26 || ((decide (28<=k)&&decide (k<=30)) || (k==35 || (decide (41<=k)&&decide (k<=48))))
 else if hole=5 then decide (49<=k)&&(decide (k<=68)&&(k != 62&&k != 64))
 else true
abbrev MSt:=List (Option (Nat×Nat))
def piece(l:List Prt)(a b:Nat):List Prt:=(l.drop a).take (b-a)
def bindS(l:List Prt)(σ:MSt)(h a b:Nat):Option MSt:=match σ[h]? with
 |some (some q)=>if piece l q.1 q.2=piece l a b then some σ else none
 |some none=>some (σ.set h (some (a,b)))
 |none=>none
def advT(l:List Prt):Nat->Nat->Nat->Option Nat
 |0,a,_=>some a
 |m+1,a,stop=>if a<stop then advT l m (zB l a) stop else none
def alikeP(f l:List Prt)(p i:Nat):Bool:=match f[p]?,l[i]? with
 |some a,some b=>a.1==b.1&&decide (a.2.2=b.2.2)
 |_,_=>false
def jB(l:List Prt)(i:Nat):Nat:=match l[i]? with
 |some b=>b.1
 |none=>0
def tosL(l:List Prt):Nat->Nat->Nat->List Nat
 |0,_,_=>[]
 |m+1,tx,iend=>tx::(if tx=iend then[]else tosL l m (zB l tx) iend)
section
variable (f l:List Prt) (hs:List Hl)
mutual
def fPart(L:Nat->Nat):Nat->Nat->Nat->MSt->Option MSt
 |0,_,_,_=>none
 |n+1,p,i,σ=>match oneOf f hs p with
  |some h=>if mayB (hkind hs h) (jB l i)then bindS l σ h i (zB l i)else none
  |none=>if alikeP f l p i then fKids L n (p+1) (zB f p) (i+1) (zB l i) σ else none
def fKids(L:Nat->Nat):Nat->Nat->Nat->Nat->Nat->MSt->Option MSt
 |0,_,_,_,_,_=>none
 |n+1,p,pend,i,stop,σ=>if p=pend then(if i=stop then some σ else none)else
   match sevOf f hs p with
   |some h=>(advT l (L h) i stop).bind λtx=>(bindS l σ h i tx).bind λσ'=>fKids L n (zB f p) pend tx stop σ'
   |none=>if i<stop then(fPart L n p i σ).bind λσ'=>fKids L n (zB f p) pend (zB l i) stop σ' else none
end
def sLoop(l:List Prt)(g:Nat->Option MSt):Nat->Nat->Nat->Option MSt
 |0,_,_=>none
 |m+1,tx,iend=>match g tx with
  |some r=>some r
  |none=>if tx=iend then none else sLoop l g m (zB l tx) iend
mutual
def sPart:Nat->Nat->Nat->(MSt->Option MSt)->MSt->Option MSt
 |0,_,_,_,_=>none
 |n+1,p,i,K,σ=>match oneOf f hs p with
  |some h=>if mayB (hkind hs h) (jB l i)then(bindS l σ h i (zB l i)).bind K else none
  |none=>if alikeP f l p i then sKids n (p+1) (zB f p) (i+1) (zB l i) K σ else none
def sKids:Nat->Nat->Nat->Nat->Nat->(MSt->Option MSt)->MSt->Option MSt
 |0,_,_,_,_,_,_=>none
 |n+1,p,pend,i,stop,K,σ=>if p=pend then(if i=stop then K σ else none)else
   match sevOf f hs p with
   |some h=>sLoop l (λtx=>(bindS l σ h i tx).bind (sKids n (zB f p) pend tx stop K)) (l.length+1) i stop
   |none=>if i<stop then sPart n p i (sKids n (zB f p) pend (zB l i) stop K) σ else none
end
mutual
def aPart:Nat->Nat->Nat->MSt->List MSt
 |0,_,_,_=>[]
 |n+1,p,i,σ=>match oneOf f hs p with
  |some h=>if mayB (hkind hs h) (jB l i)then(bindS l σ h i (zB l i)).toList else[]
  |none=>if alikeP f l p i then aKids n (p+1) (zB f p) (i+1) (zB l i) σ else[]
def aKids:Nat->Nat->Nat->Nat->Nat->MSt->List MSt
 |0,_,_,_,_,_=>[]
 |n+1,p,pend,i,stop,σ=>if p=pend then(if i=stop then[σ]else[])else
   match sevOf f hs p with
   |some h=>(tosL l (l.length+1) i stop).flatMap λtx=>(bindS l σ h i tx).toList.flatMap (aKids n (zB f p) pend tx stop)
   |none=>if i<stop then(aPart n p i σ).flatMap (aKids n (zB f p) pend (zB l i) stop)else[]
end
end
def cntP(q:List Prt):Nat:=match zC q with
 |some ts=>ts.length
 |none=>0
theorem jR{l:List Prt}{us:List Nat}(hl:zC l=some us):∀(k a stop b:Nat),stop<=l.length->advT l k a stop=some b->a+k<=b
 |0,a,stop,b,_,h=>by rw[advT]at h;cases h;omega
 |k+1,a,stop,b,hs,h=>by
  rw[advT]at h;split at h
  .rename_i hc;have:=jR hl k _ _ _ hs h;have:=(zS hl (show a<l.length by omega)).1;omega
  .cases h
theorem jV(l:List Prt):∀(k j a stop:Nat),advT l (k+j) a stop=(advT l k a stop).bind λb=>advT l j b stop
 |0,j,a,stop=>by rw[Nat.zero_add,advT];rfl
 |k+1,j,a,stop=>by
  rw[show k+1+j=(k+j)+1 by omega,advT,advT];split
  .exact jV l k j _ _
  .rfl
theorem zKp{l:List Prt}{us:List Nat}(hl:zC l=some us){a:Nat}(ha:a<l.length):∃t,zC (piece l a (zB l a))=some [t]:=by
 obtain⟨ts,h1,h2⟩:=jX _ _ _ _ _ (zEm hl ha);match ts,h2 with
 |[t],_=>exact⟨t,h1⟩
theorem zBi{l:List Prt}{us:List Nat}(hl:zC l=some us){K k a stop b:Nat}(hs:stop<=l.length)(hK:advT l K a stop=some stop)(hk:advT l k a stop=some b):k<=K/\b<=stop/\advT l (K-k) b stop=some stop:=by
 have hle:k<=K:=by
  rcases Nat.lt_or_ge K k with h|h
  .exfalso;rw[show k=K+((k-K-1)+1)by omega,jV,hK]at hk;simp only[Option.bind_some]at hk;rw[advT,iN Z]at hk;cases hk
  .exact h
 have h2:=hK;rw[show K=k+(K-k)by omega,jV,hk]at h2;simp only[Option.bind_some]at h2;have:=jR hl _ _ _ _ hs h2;exact⟨hle,Z,h2⟩
theorem jG{l:List Prt}{K a stop:Nat}(hK:advT l K a stop=some stop)(ha:a≠stop):a<stop/\∃J,K=J+1/\advT l J (zB l a) stop=some stop:=by
 cases K with
 |zero=>rw[advT]at hK;cases hK;exact absurd rfl ha
 |succ J =>
  rw[advT]at hK;split at hK
  .exact⟨by assumption,J,rfl,hK⟩
  .cases hK
theorem kL{l:List Prt}{us:List Nat}(hl:zC l=some us){i:Nat}(hi:i<l.length):∃q,(l[i]).2.1=((q:Nat):Int)/\advT l q (i+1) (zB l i)=some (zB l i):=by
 obtain⟨ts,q,h1,h2,h3,h4,_⟩:=zDf hl hi;refine⟨q,h2,?_⟩;have key:∀m n,n+m=q->advT l m (i+1+(ts.take n).sum) (zB l i)=some (zB l i):=by
  intro m;induction m with
  |zero=>intro n e;rw[advT,h4,show n=q by omega]
  |succ m ih =>
   intro n e;obtain⟨g1,g2,_,g4,_⟩:=zJm hl h1 h3 (show n<q by omega);rw[advT,iP Z,g2];exact ih (n+1) Z
 have:=key q 0 Z
 simpa using this
section
variable (f l:List Prt) (hs:List Hl)
end
section
variable (f l:List Prt) (hs:List Hl)
end
section
variable (f l:List Prt) (hs:List Hl)
variable {f l hs}
end
def upN(l:List Prt)(i:Nat):Int:=upI l i i
theorem zDk{f:List Prt}{uf:List Nat}(hf:zC f=some uf){p:Nat}(hp:p<f.length)(h:(f[p]).2.1=0):zB f p=p+1:=by
 obtain⟨q,h1,h2⟩:=kL hf hp;obtain rfl:q=0:=Z;rw[advT]at h2;have:=Option.some.inj h2;omega
open Go.RowKit
def TokRow(w:World)(v:Value)(l:List (Int×Nat×Nat)):Prop :=
 ∃a cap,v=.slice a l.length cap/\l.length<=cap/\(0<l.length->∃b,a=some ⟨b,0,none⟩/\b<w.heap.size/\∀i (hi:i<l.length),w.cell? ⟨b,i*3,none⟩=some (.int .u8 l[i].1)/\w.cell? ⟨b,i*3+1,none⟩=some (.int .i64 (l[i].2.1:Nat))/\w.cell? ⟨b,i*3+2,none⟩=some (.int .i64 (l[i].2.2:Nat)))
theorem TokRow.below{w w':World}{v:Value}{l:List (Int×Nat×Nat)}(h:TokRow w v l)(hb:Below w.heap.size w w'):TokRow w' v l:=by
 obtain⟨a,cap,hv,hc,h2⟩:=h;refine⟨a,cap,hv,hc,λhpos=>?_⟩;obtain⟨b,ha,hbl,hcell⟩:=h2 hpos;refine⟨b,ha,Nat.lt_of_lt_of_le hbl hb.size,λi hi=>?_⟩;have:=hcell i hi;exact⟨by rw[hb.cell (p:=⟨b,i*3,none⟩) hbl];exact this.1,by rw[hb.cell (p:=⟨b,i*3+1,none⟩) hbl];exact this.2.1,by rw[hb.cell (p:=⟨b,i*3+2,none⟩) hbl];exact this.2.2⟩
theorem TokRow.at{w w':World}{a:Option Addr}{n cap:Nat}{l:List (Int×Nat×Nat)}(h:TokRow w (.slice a n cap) l)(hb:Below w.heap.size w w'){i:Nat}(hi:i<l.length) :
  ∃b,a=some ⟨b,0,none⟩/\n=l.length/\l.length<=cap/\w'.cell? ⟨b,i*3,none⟩=some (.int .u8 l[i].1)/\w'.cell? ⟨b,i*3+1,none⟩=some (.int .i64 (l[i].2.1:Nat))/\w'.cell? ⟨b,i*3+2,none⟩=some (.int .i64 (l[i].2.2:Nat)):=by
 obtain⟨a',cap',hv,hc,hcells⟩:=h.below hb;simp only[Value.slice.injEq]at hv;obtain⟨rfl,rfl,rfl⟩:=hv;obtain⟨b,hb',_,hcell⟩:=hcells Z;have:=hcell i hi;exact⟨b,hb',rfl,hc,this.1,this.2.1,this.2.2⟩
def NewV(B:Nat)(v:Value):Prop:=∀b,v.ownBlock=some b->B<=b
theorem NewV.mono{B B':Nat}{v:Value}(h:NewV B v)(hb:B'<=B):NewV B' v:=λb e=>Nat.le_trans hb (h b e)
theorem NewV.of_owns{w:World}{B:Nat}{v:Value}{e:TypeId}{size n:Nat}{xs:List Value}(h:w.ownsRow B e size v n xs):NewV B v:=λb eb=>(h.lt b eb).1
theorem NewV.none(B:Nat):NewV B (.slice none 0 0):=λb e=>by simp[Value.ownBlock]at e
theorem vY{w:World}{a:Addr}{b i:Nat}(h:b≠a.block)(u:Value):(w.setCell a u).cell? ⟨b,i,none⟩=w.cell? ⟨b,i,none⟩:=by
 simp only[World.cell?,heap_setCell_other _ _ _ _ h]
theorem TokRow.setCell{w:World}{v:Value}{l:List (Int×Nat×Nat)}(h:TokRow w v l){a:Addr}(ha:v.ownBlock≠some a.block)(u:Value):TokRow (w.setCell a u) v l:=by
 obtain⟨a',cap,hv,hc,h2⟩:=h;refine⟨a',cap,hv,hc,λhpos=>?_⟩;obtain⟨b,hb,hbl,hcell⟩:=h2 hpos;have hne:b≠a.block:=λe=>ha (by rw[hv,hb,<-e];rfl)
 refine⟨b,hb,by simpa using hbl,λi hi=>?_⟩;have:=hcell i hi;exact⟨by rw[vY hne];exact this.1,by rw[vY hne];exact this.2.1,by rw[vY hne];exact this.2.2⟩
theorem Row.setCell{w:World}{v:Value}{n sz:Nat}{cs:List Value}(h:Row w v n sz cs){a:Addr}(ha:v.ownBlock≠some a.block)(u:Value):Row (w.setCell a u) v n sz cs:=by
 obtain⟨h1,a',cap,hv,hc,hz,h2⟩:=h;refine⟨h1,a',cap,hv,hc,hz,λhpos=>?_⟩;obtain⟨b,off,hb,hbl,hcell⟩:=h2 hpos;have hne:b≠a.block:=λe=>ha (by rw[hv,hb,<-e];rfl)
 exact⟨b,off,hb,by simpa using hbl,λi hi=>by rw[vY hne];exact hcell i hi⟩
theorem zK.setCell{w:World}{v:Value}{k:IntKind}{l:List Int}(h:zK w v k l){a:Addr}(ha:v.ownBlock≠some a.block)(u:Value):zK (w.setCell a u) v k l:=Row.setCell h ha u
theorem NewV.ne{B:Nat}{v:Value}(h:NewV B v){g:Nat}(hg:g<B):v.ownBlock≠some g:=λe=>by have:=h g e;omega
theorem TokRow.none(w:World):TokRow w (.slice none 0 0) []:=⟨Option.none,0,rfl,nR _,λh=>absurd h Ob⟩
theorem zK.none(w:World)(k:IntKind):zK w (.slice none 0 0) k []:=⟨rfl,Option.none,0,rfl,nR _,λ_=>rfl,λh=>absurd h Ob⟩
theorem zKm {f : FuncId} {fn : Func} {c : Code} (hf : Tryz.prog.funcs[f]? = some fn) (hname : (fn.name == "runtime.NumGoroutine") = false) (hb : fn.body = some c) (args : Array Value) (w : World) :
  (callFunc f args).run Tryz.prog w=.ok (.enter f args) w:=by
 have h1 : fn.name ≠ "runtime.NumGoroutine" := by simpa using hname
 simp[callFunc,hf,h1,hb]
end Go.Proofs.YtfpjdpdmgceciaaGreatDoor
