/- Layers 7 and 8 in plain Lean: signs, blanks and words that stand in a text, one behind the other. -/
import Derived.Test.YtfpjdpdmgceciaaGreatDoorLxETg
import Derived.Test.YtfpjdpdmgceciaaGreatDoorLexPTg
import Derived.Test.YtfpjdpdmgceciaaGreatDoorGtPTg
import Derived.Test.YtfpjdpdmgceciaaGreatDoorSemiTg
import Derived.Test.YtfpjdpdmgceciaaGreatDoorCoreTg
import Derived.Test.YtfpjdpdmgceciaaGreatDoorPtiTg
import Derived.Test.YtfpjdpdmgceciaaGreatDoorPsgTg
namespace Go.Proofs.YtfpjdpdmgceciaaGreatDoor
set_option linter.all false
attribute [local irreducible] signL zA
theorem sg_1{c:Nat}(h1:[c]∈signs1):∀(r:List Nat),(∀b,r.head?=some b->(∀m∈signs3,m.take 2≠[c,b])/\[c,b]∉signs2)->signL (c::r)=1:=by
 intro r hr;unfold signL;have n3:signs3.contains ((c::r).take 3)=false:=by
  cases h:signs3.contains ((c::r).take 3)with
  |false=>rfl
  |true =>
   have hm:=List.contains_iff_mem.1 h;cases r with
   |nil =>
    have hl:∀m∈signs3,m.length=3:=V;have:=hl _ hm;simp at this
   |cons b r =>
    exact absurd Ob ((hr b rfl).1 _ hm)
 have n2:signs2.contains ((c::r).take 2)=false:=by
  cases h:signs2.contains ((c::r).take 2)with
  |false=>rfl
  |true =>
   have hm:=List.contains_iff_mem.1 h;cases r with
   |nil =>
    have hl:∀m∈signs2,m.length=2:=V;have:=hl _ hm;simp at this
   |cons b r=>exact absurd hm (hr b rfl).2
 have y1:signs1.contains ((c::r).take 1)=true:=List.contains_iff_mem.2 (by simpa using h1);simp only[n3,n2,y1,Bool.false_eq_true,if_false,if_true]
theorem sg_2{c d:Nat}(h2:[c,d]∈signs2):∀(r:List Nat),(∀b,r.head?=some b->[c,d,b]∉signs3)->signL (c::d::r)=2:=by
 intro r hr;unfold signL;have n3:signs3.contains ((c::d::r).take 3)=false:=by
  cases h:signs3.contains ((c::d::r).take 3)with
  |false=>rfl
  |true =>
   have hm:=List.contains_iff_mem.1 h;cases r with
   |nil =>
    have hl:∀m∈signs3,m.length=3:=V;have:=hl _ hm;simp at this
   |cons b r=>exact absurd (by simpa using hm) (hr b rfl)
 have y2:signs2.contains ((c::d::r).take 2)=true:=List.contains_iff_mem.2 (by simpa using h2);simp only[n3,y2,Bool.false_eq_true,if_false,if_true]
def sgB:List Nat:=[43,45,42,47,37,38,124,94,60,62,61,33,40,41,91,93,44,46,58]
theorem zHq:∀c∈sgB,c<128/\c≠0/\letter c=false/\blank c=false/\c≠59/\isMark c=false/\10<=dval c:=by
 unfold letter;decide +kernel
section
variable {u:ByteArray} {i:Nat}
theorem zM{b:UInt8}{r:List UInt8}(h:u.data.toList.drop i=b::r):i<u.size/\bt u i=b.toNat/\u.data.toList.drop (i+1)=r:=kY h
theorem yHf{w r:List UInt8}(h:u.data.toList.drop i=w++r)(hw:0<w.length)(hc:(w.headD 0).toNat∈sgB)(hn:signL ((w++r).map λb=>b.toNat)=w.length)(h47:w.headD 0=47->r.head?=some 32/\w.length=1)(h46:w.headD 0=46->∀b,(w++r)[1]?=some b->10<=dval b.toNat):lex u i=(8,((i+w.length:Nat):Int))/\i<u.size:=by
 obtain⟨c,w',rfl⟩:∃c w',w=c::w':=by cases w with|nil=>simp at hw|cons c w'=>exact⟨c,w',rfl⟩
 simp only[List.headD_cons]at hc h47 h46;obtain⟨hi,hb,ht⟩:=zM (u:=u) (i:=i) (b:=c) (r:=w'++r) (by rw[h];rfl);obtain⟨k1,k2,k3,k4,k5,k6,k7⟩:=zHq _ hc;have hr:rd u i=(c.toNat,1):=by rw[vF hi Z,hb]
 have hs:zA (u.extract i u.size)=((c::w')++r).map λb=>b.toNat:=by
  unfold zA;rw[xD,h]
 have hnx:∀x:Nat,i+1<u.size->bt u (i+1)=x->∃b,(w'++r).head?=some b/\b.toNat=x:=λx h1 h2=>by
  cases hq:w'++r with
  |nil =>
   rw[hq]at ht;have:=vG ht;simp at this;omega
  |cons b q =>
   rw[hq]at ht;exact⟨b,rfl,by rw[<-h2,(zM ht).2.1]⟩
 have n47:∀x,x=47\/x=42->¬(i+1<u.size/\bt u i=47/\bt u (i+1)=x):=λx hx ⟨g1,g2,g3⟩=>by
  have hc47:c=47:=UInt8.toNat_inj.1 (by rw[<-hb,g2];rfl);obtain⟨a1,a2⟩:=h47 hc47;obtain⟨b,b1,b2⟩:=hnx x g1 g3;have:w'=[]:=by simpa using a2
  rw[this,List.nil_append,a1]at b1;cases b1
  have:(32:UInt8).toNat=32:=rfl;omega
 have hnum:numBegins u i=false:=by
  cases hq:numBegins u i with
  |false=>rfl
  |true =>
   unfold numBegins at hq;simp only[Bool.and_eq_true,decide_eq_true_eq,Bool.or_eq_true]at hq;rw[hb]at hq;rcases hq.2 with g|⟨g,g2,g3⟩
   .omega
   .have hc46:c=46:=UInt8.toNat_inj.1 (by rw[g];rfl);obtain⟨b,b1,b2⟩:=hnx _ g2 rfl;have:=h46 hc46 b (by rw[List.cons_append,List.getElem?_cons_succ,<-List.head?_eq_getElem?];exact b1);rw[b2]at this;omega
 refine⟨?_,hi⟩;unfold lex;rw[hr];simp only[];rw[iN Z,iN (by rw[k4];decide),iN (n47 47 (Or.inl rfl)),iN (n47 42 (Or.inr rfl)),iN (by rw[k3];decide),iN (by rw[hb];exact k5)];rw[iN (by unfold numScan;rw[Int.toNat_natCast,hnum];simp),iN (by
  have:(begun u (i:Int)).2.2.2=15:=by unfold begun;rw[iN Z,iN (by rw[Int.toNat_natCast,hb,k6];decide)]
  rw[this];simp),hs,hn,iP hw]
end
def LexW(w:ByteArray)(K:Int->Prop):Prop:=∃(s:ByteArray) (a:Nat) (k:Int),K k/\0<w.size/\a+w.size<=s.size/\s.extract a (a+w.size)=w/\lex s a=(k,((a+w.size:Nat):Int))/\cleanZ s a<0/\cleanZ s (a+w.size)<0
def NmW(w:ByteArray):Prop:=LexW w λk=>k=1
def LtW(w:ByteArray):Prop:=LexW w λk=>3<=k/\k<=7
namespace ExT
def wlx:ExT->Prop
 |none=>True
 |name w=>NmW w
 |lit w=>LtW w
 |paren a=>a.wlx
 |sel a w=>a.wlx/\NmW w
 |index a r=>a.wlx/\r.wlx
 |slice a b c d=>a.wlx/\b.wlx/\c.wlx/\d.wlx
 |call a r _=>a.wlx/\r.wlx
 |star a=>a.wlx
 |un _ a=>a.wlx
 |bin _ a b=>a.wlx/\b.wlx
 |nil=>True
 |cons a r=>a.wlx/\r.wlx
end ExT
def Mt(u:ByteArray)(t:Tok):XTk->Prop
 | .nm w=>t.1=1/\u.extract t.2.1 t.2.2=w
 | .lt w=>(3<=t.1/\t.1<=7)/\u.extract t.2.1 t.2.2=w
 | .sg w=>t.1=8/\(u.extract t.2.1 t.2.2).toList=w/\t.2.2=t.2.1+w.length/\(0<w.length->bt u t.2.1=(w.headD 0).toNat)
def Mts(u:ByteArray):List Tok->List XTk->Prop
 |[],[]=>True
 |t::l,k::r=>Mt u t k/\Mts u l r
 |_,_=>False
theorem Mts.app{u:ByteArray}:∀{a:List Tok}{b:List XTk}{a':List Tok}{b':List XTk},Mts u a b->Mts u a' b'->Mts u (a++a') (b++b')
 |[],[],_,_,_,h=>h
 |_::_,_::_,_,_,h,k=>⟨h.1,Mts.app h.2 k⟩
def Lx(u:ByteArray)(i:Nat)(T:List XTk)(j:Nat)(f:Bool):Prop :=
 (cleanZ u j<0->cleanZ u i<0)/\∀en,∃out en',semiRec u en (alls u i).1=out++semiRec u en' (alls u j).1/\(alls u i).2=(alls u j).2/\Mts u out T/\(f=true->en'.isSome=true)
section
variable {u:ByteArray} {i j k:Nat} {T T':List XTk} {f g:Bool}
theorem Lx.refl(u:ByteArray)(i:Nat):Lx u i [] i false:=⟨id,λen=>⟨[],en,rfl,rfl,trivial,λh=>by cases h⟩⟩
theorem Lx.trans(h:Lx u i T j f)(h':Lx u j T' k g):Lx u i (T++T') k g:=by
 refine⟨λc=>h.1 (h'.1 c),λen=>?_⟩;obtain⟨o,en1,a1,a2,a3,_⟩:=h.2 en;obtain⟨o',en2,b1,b2,b3,b4⟩:=h'.2 en1;exact⟨o++o',en2,by rw[a1,b1,List.append_assoc],a2.trans b2,a3.app b3,b4⟩
theorem Lx.weak(h:Lx u i T j true):Lx u i T j f:=by
 cases f with
 |true=>exact h
 |false=>exact⟨h.1,λen=>by obtain⟨o,e,a,b,c,_⟩:=h.2 en;exact⟨o,e,a,b,c,λh=>by cases h⟩⟩
theorem Lx.one{q:Int}{x:XTk}(hi:i<u.size)(hl:lex u i=(q,(j:Int)))(hq:1<=q/\q<=9)(hm:Mt u (q,i,j) x)(hc:cleanZ u j<0->cleanZ u i<0)(hf:f=true->endsK q (u.extract i j)=true):Lx u i [x] j f:=by
 refine⟨hc,λen=>⟨[(q,i,j)],if endsK q (u.extract i j)then some j else none,?_,?_,⟨hm,trivial⟩,λh=>by rw[iP (hf h)];rfl⟩⟩
 .rw[vI hi hl Z,semiRec,iN (by unfold silentK;simp;omega)];rfl
 .rw[vI hi hl Z]
theorem fP{r:List UInt8}(h:u.data.toList.drop i=32::r)(hr:∀b,r.head?=some b->blankB b.toNat=false):Lx u i [] (i+1) false:=by
 obtain⟨hi,hb,ht⟩:=zM h;have hb:bt u i=32:=hb;have hto:blankTo u i=i+1:=by
  rw[blankTo,iP ⟨hi,by rw[hb];rfl⟩,blankTo,iN];rintro⟨g1,g2⟩;cases r with
  |nil=>have:=vG ht;simp at this;omega
  |cons b r=>rw[(zM ht).2.1,hr b rfl]at g2;cases g2
 have hl:=zVs hi (by rw[hb];rfl);rw[hto]at hl;refine⟨λc=>zFm hi Z Z c,λen=>⟨[],en,?_,by rw[vI hi hl V],trivial,λh=>by cases h⟩⟩;have hnl:hasNl u (10,i,i+1)=false:=by
  have hx:(u.extract i (i+1)).data.toList=[32]:=by
   rw[yA,h];simp
  unfold hasNl;simp only[hx];decide +kernel
 rw[vI hi hl V,semiRec,iP (by rfl),iN (by rw[hnl];decide)];rfl
theorem zKo{w r:List UInt8}(h:u.data.toList.drop i=w++r)(hw:0<w.length)(hc:(w.headD 0).toNat∈sgB)(hall:∀b∈w,b.toNat<128/\b.toNat≠0)(hn:signL ((w++r).map λb=>b.toNat)=w.length)(h47:w.headD 0=47->r.head?=some 32/\w.length=1)(h46:w.headD 0=46->∀b,(w++r)[1]?=some b->10<=dval b.toNat)(hf:f=true->w=[41]\/w=[93]):Lx u i [.sg w] (i+w.length) f:=by
 obtain⟨hl,hi⟩:=yHf h hw hc hn h47 h46;have hx:(u.extract i (i+w.length)).data.toList=w:=by
  rw[yA,h];simp
 refine Lx.one hi hl V ⟨rfl,by rw[ByteArray.toList_eq];exact hx,rfl,λ_=>by cases w with|nil=>simp at hw|cons c w'=>exact(zM (u:=u) (i:=i) (b:=c) (r:=w'++r) h).2.1⟩ ?_ (λe=>?_)
 .clear hl hx hn h47 h46 hc hw hf;induction w generalizing i with
  |nil=>exact id
  |cons b w ih =>
   obtain⟨hi,hb,ht⟩:=zM (u:=u) (i:=i) (b:=b) (r:=w++r) h;intro c;obtain⟨b1,b2⟩:=hall b (.head _);refine zFm hi Z Z ?_;cases w with
   |nil=>simpa using c
   |cons b' w' =>
    refine ih ht (λx hx=>hall x (.tail _ hx)) (zM (u:=u) (i:=i+1) (b:=b') (r:=w'++r) ht).1 ?_;rw[show i+1+(b'::w').length=i+(b::b'::w').length by simp;omega];exact c
 .unfold endsK;rw[iN V,iN V,iP rfl,ByteArray.toList_eq,hx];rcases hf e with rfl|rfl<;>decide
theorem zMb{c:UInt8}{r:List UInt8}(h:u.data.toList.drop i=c::r)(hc:c.toNat∈sgB)(h1:[c.toNat]∈signs1)(h0:c≠47/\c≠46)(hn:∀b,r.head?=some b->(∀m∈signs3,m.take 2≠[c.toNat,b.toNat])/\[c.toNat,b.toNat]∉signs2)(hf:f=true->c=41\/c=93):Lx u i [.sg [c]] (i+1) f:=by
 have k:=(zHq _ hc);refine zKo (w:=[c]) (r:=r) h Ob hc (λb hb=>by rw[List.mem_singleton]at hb;subst hb;exact⟨k.1,k.2.1⟩) ?_ (λe=>absurd e h0.1) (λe=>absurd e h0.2) (λe=>by rcases hf e with rfl|rfl<;>simp);refine sg_1 h1 _ λb hb=>?_;rw[List.head?_map,Option.map_eq_some_iff]at hb;obtain⟨b',b1,rfl⟩:=hb;exact hn b' b1
theorem vS{c:UInt8}{r:List UInt8}(h:u.data.toList.drop i=c::r)(hc:c=40\/c=41\/c=91\/c=93\/c=44)(hf:f=true->c=41\/c=93):Lx u i [.sg [c]] (i+1) f:=by
 refine zMb h ?_ ?_ ?_ (λb _=>?_) hf
 .rcases hc with rfl|rfl|rfl|rfl|rfl<;>decide
 .rcases hc with rfl|rfl|rfl|rfl|rfl<;>decide
 .rcases hc with rfl|rfl|rfl|rfl|rfl<;>decide
 .rcases hc with rfl|rfl|rfl|rfl|rfl<;>simp[signs3,signs2]
theorem zGw{w:ByteArray}{K:Int->Prop}{x:XTk}(hw:LexW w K)(hK:∀k,K k->k=1\/(3<=k/\k<=7))(hx:∀k,K k->∀e:Nat,u.extract i e=w->Mt u (k,i,e) x){r:List UInt8}(h:u.data.toList.drop i=w.data.toList++r)(hr:∀b,r.head?=some b->b.toNat∈enL/\(b.toNat=46->∀k,K k->k=1)):Lx u i [x] (i+w.size) f:=by
 obtain⟨s,a,q,hq,h0,hle,he,hl,hc1,hc2⟩:=hw;have hlen:=vG h;rw[lA,<-size_data]at hlen;have hue:u.extract i (i+w.size)=w:=by
  apply ByteArray.ext;apply Array.toList_inj.1;rw[yA,h,Nat.add_sub_cancel_left,size_data,List.take_left'];rfl
 have H:SameE s a u i w.size:=⟨hle,Z,by rw[hue,he]⟩;have hnx:NxE u (i+w.size)/\(q≠1->i+w.size<u.size->bt u (i+w.size)≠46):=by
  have hd2:u.data.toList.drop (i+w.size)=r:=by
   rw[<-List.drop_drop,h,size_data,List.drop_left]
  cases r with
  |nil =>
   have:=vG hd2;simp at this;exact⟨Or.inl Z,λ_ g=>Z⟩
  |cons b r =>
   obtain⟨g1,g2,_⟩:=zM hd2;obtain⟨e1,e2⟩:=hr b rfl;exact⟨Or.inr (by rw[g2];exact e1),λhne _ g=>hne (e2 (by rw[<-g2];exact g) q hq)⟩
 have hk:=hK q hq;obtain⟨k1,k2,k3,k4⟩:=yGk H h0 hnx.1 (by rw[hl];exact hk) (by rw[hl];exact hnx.2) (by rw[hl]);rw[hl]at k1;refine Lx.one Z k1 Z (hx q hq _ hue) (λc=>?_) (λ_=>?_)
 .have:=zKk (u:=u) (a:=i) (b:=i+w.size) Z Z c (λg=>?_) 0 Z (by
   rw[hue,<-he];exact zGp Z hle hc2 0 Z hc1)
  .exact this
  .exfalso;rw[hue,<-he]at g;have hpr:=zJr (s:=s) (i:=a) (e:=a+w.size) (j:=0) Z hle (by rw[Nat.add_zero];exact k3) (by rw[Nat.add_zero];omega);rw[hpr,Nat.add_zero]at g;exact k2 g
 .unfold endsK;rw[iP];rcases hk with hk|hk
  .exact Or.inl hk
  .exact Or.inr hk
end
def badB:List Nat:=[61,32,9,10,13,59,43,45,38,94,33,60,62,124,47,37,42,126,58,44,40,41,91,93,123,125]
theorem yHg:∀c∈badB,c<128/\(blank c=true\/(blank c=false/\letter c=false/\isMark c=false/\10<=dval c/\c≠46)):=by
 unfold letter;decide +kernel
theorem zZt{s:ByteArray}{i:Nat}(hi:i<s.size)(hb:bt s i∈badB):¬((lex s i).1=1\/(3<=(lex s i).1/\(lex s i).1<=7)):=by
 obtain⟨k1,k2⟩:=yHg _ hb;have hr:=vF hi k1;unfold lex;rw[hr];simp only[];rw[iN Z];rcases k2 with k2|⟨k2,k3,k4,k5,k6⟩
 .rw[iP k2];simp
 .rw[iN (by rw[k2];decide)];split
  .simp
  .split
   .split<;>simp
   .rw[iN (by rw[k3];decide)];split
    .simp
    .have hnum:numBegins s i=false:=by
      cases hq:numBegins s i with
      |false=>rfl
      |true =>
       unfold numBegins at hq;simp only[Bool.and_eq_true,decide_eq_true_eq,Bool.or_eq_true]at hq;omega
     rw[iN (by unfold numScan;rw[Int.toNat_natCast,hnum];simp),iN (by unfold begun;rw[iN Z,iN (by rw[Int.toNat_natCast,k4];decide)];simp)];split<;>simp
theorem zWf{w:ByteArray}{K:Int->Prop}(hw:LexW w K)(hK:∀k,K k->k=1\/(3<=k/\k<=7)):∃b r,w.data.toList=b::r/\b.toNat∉badB:=by
 obtain⟨s,a,q,hq,h0,hle,he,hl,_,_⟩:=hw;obtain⟨b,r,hbr⟩:∃b r,w.data.toList=b::r:=by
  cases h:w.data.toList with
  |nil=>rw[size_data,h]at h0;simp at h0
  |cons b r=>exact⟨b,r,rfl⟩
 refine⟨b,r,hbr,λhb=>?_⟩;have h1:=gZ (s:=s) (i:=a) (e:=a+w.size) (j:=0) Z hle;rw[he,Nat.add_zero]at h1;have h2:bt w 0=b.toNat:=(zM (u:=w) (i:=0) (b:=b) (r:=r) (by simpa using hbr)).2.1;have:=zZt (s:=s) (i:=a) Z (by rw[<-h1,h2];exact hb);rw[hl]at this;exact this (hK q hq)
namespace ExT
def noA:List Nat:=[61,32,9,10,13]
def noP:List Nat:=[61,32,9,10,13,43,45,38,94,60]
theorem zZu{w:ByteArray}(h:w.toList∈unW):∃b r,w.data.toList=b::r/\b.toNat∉noA:=by
 rw[ByteArray.toList_eq]at h;simp only[unW,List.mem_cons,List.mem_nil_iff,or_false]at h;rcases h with h|h|h|h|h|h<;>rw[h]<;>exact⟨_,_,rfl,V⟩
theorem kR{N:List Nat}{x y:List UInt8}(h:∃b r,x=b::r/\b.toNat∉N):∃b r,x++y=b::r/\b.toNat∉N:=by
 obtain⟨b,r,rfl,h⟩:=h;exact⟨b,r++y,rfl,h⟩
theorem word_no{w:ByteArray}{K:Int->Prop}(hw:LexW w K)(hK:∀k,K k->k=1\/(3<=k/\k<=7)):∃b r,w.data.toList=b::r/\b.toNat∉noP:=by
 obtain⟨b,r,h1,h2⟩:=zWf hw hK;refine⟨b,r,h1,λh=>h2 ?_⟩;have:∀x∈noP,x∈badB:=V;exact this _ h
theorem nmK:∀k:Int,k=1->k=1\/(3<=k/\k<=7):=λk h=>Or.inl h
theorem ltK:∀k:Int,(3<=k/\k<=7)->k=1\/(3<=k/\k<=7):=λk h=>Or.inr h
theorem fp:∀z:ExT,z.srt=1->z.wlx->z.gok->6<=z.lvl->z.isUn=false->∃b r,z.txt=b::r/\b.toNat∉noP
 |none,h,_,_,_,_|nil,h,_,_,_,_=>by simp[srt]at h
 |cons _ _,h,_,_,_,_=>(zIh (Or.inl h)).elim
 |un _ _,_,_,_,_,h=>by simp[isUn]at h
 |bin w _ _,_,_,_,h,_=>by have:=lvW_le w;simp[lvl]at h;omega
 |name w,_,h,_,_,_=>word_no h nmK
 |lit w,_,h,_,_,_=>word_no h ltK
 |paren a,_,_,_,_,_=>⟨40,_,rfl,V⟩
 |star a,_,_,_,_,_=>⟨42,_,rfl,V⟩
 |sel a w,h,hw,hg,_,_=>by
  have ha:a.srt=1:=by simp only[srt]at h;split at h<;>omega
  exact kR (kR (fp a ha hw.1 hg.2 (by have:=hg.1;omega) (by cases a<;>first|rfl|(have:=hg.1;simp[lvl]at this))))
 |index a r,h,hw,hg,_,_=>by
  have ha:a.srt=1:=by simp only[srt]at h;split at h<;>first|omega|(rename_i hh;exact hh.1)
  exact kR (fp a ha hw.1 hg.2.1 (by have:=hg.1;omega) (by cases a<;>first|rfl|(have:=hg.1;simp[lvl]at this)))
 |slice a b c d,h,hw,hg,_,_=>by
  have ha:a.srt=1:=by simp only[srt]at h;split at h<;>first|omega|(rename_i hh;exact hh.1)
  exact kR (fp a ha hw.1 hg.2.1 (by have:=hg.1;omega) (by cases a<;>first|rfl|(have:=hg.1;simp[lvl]at this)))
 |call a r w,h,hw,hg,_,_=>by
  have ha:a.srt=1:=by simp only[srt]at h;split at h<;>first|omega|(rename_i hh;exact hh.1)
  exact kR (fp a ha hw.1 hg.2.1 (by have:=hg.1;omega) (by cases a<;>first|rfl|(have:=hg.1;simp[lvl]at this)))
theorem noPA{b:Nat}(h:b∉noP):b∉noA:=λh2=>by
 have:∀x∈noA,x∈noP:=V;exact h (this _ h2)
theorem fa:∀z:ExT,z.srt=1->z.wlx->z.wok->z.gok->∃b r,z.txt=b::r/\b.toNat∉noA
 |bin w a b,h,hw,ho,hg=>by
  have ha:a.srt=1:=by simp only[srt]at h;split at h<;>first|omega|(rename_i hh;exact hh.1)
  exact kR (fa a ha hw.1 ho.1 hg.2.2.1)
 |un w a,_,_,ho,_=>kR (zZu ho.2)
 |none,h,_,_,_|nil,h,_,_,_=>by simp[srt]at h
 |cons _ _,h,_,_,_=>(zIh (Or.inl h)).elim
 |name w,h,hw,_,hg=>by obtain⟨b,r,h1,h2⟩:=fp (name w) h hw hg (by simp[lvl]) rfl;exact⟨b,r,h1,noPA h2⟩
 |lit w,h,hw,_,hg=>by obtain⟨b,r,h1,h2⟩:=fp (lit w) h hw hg (by simp[lvl]) rfl;exact⟨b,r,h1,noPA h2⟩
 |paren a,h,hw,_,hg=>by obtain⟨b,r,h1,h2⟩:=fp (paren a) h hw hg (by simp[lvl]) rfl;exact⟨b,r,h1,noPA h2⟩
 |sel a w,h,hw,_,hg=>by obtain⟨b,r,h1,h2⟩:=fp (sel a w) h hw hg (by simp[lvl]) rfl;exact⟨b,r,h1,noPA h2⟩
 |index a r,h,hw,_,hg=>by obtain⟨b,r,h1,h2⟩:=fp (index a r) h hw hg (by simp[lvl]) rfl;exact⟨b,r,h1,noPA h2⟩
 |slice a b c d,h,hw,_,hg=>by obtain⟨b,r,h1,h2⟩:=fp (slice a b c d) h hw hg (by simp[lvl]) rfl;exact⟨b,r,h1,noPA h2⟩
 |call a r w,h,hw,_,hg=>by obtain⟨b,r,h1,h2⟩:=fp (call a r w) h hw hg (by simp[lvl]) rfl;exact⟨b,r,h1,noPA h2⟩
 |star a,h,hw,_,hg=>by obtain⟨b,r,h1,h2⟩:=fp (star a) h hw hg (by simp[lvl]) rfl;exact⟨b,r,h1,noPA h2⟩
end ExT
section
variable {u:ByteArray} {i j:Nat} {T T':List XTk} {f:Bool}
theorem Lx.cast(h:Lx u i T j f){T':List XTk}{j':Nat}(hT:T=T')(hj:j=j'):Lx u i T' j' f:=by subst hT;subst hj;exact h
theorem dl{x y:List UInt8}(h:u.data.toList.drop i=x++y):u.data.toList.drop (i+x.length)=y:=by rw[<-List.drop_drop,h,List.drop_left]
theorem zSb{b:Nat}(h:b∉ExT.noA):blankB b=false:=by
 cases hb:blankB b with
 |false=>rfl
 |true =>
  have:=zCj hb;exact absurd (by simp[ExT.noA];omega) h
theorem yGl{w:List UInt8}{r:List UInt8}(h:u.data.toList.drop i=w++r)(hw:w∈ExT.unW)(hr:∀b,r.head?=some b->b.toNat∉ExT.noP\/b=32):Lx u i [.sg w] (i+w.length) false:=by
 have one:∀c:UInt8,c=43\/c=45\/c=33\/c=94\/c=38->u.data.toList.drop i=[c]++r->Lx u i [.sg [c]] (i+[c].length) false:=λc hc h=>by
  refine zMb (r:=r) h ?_ ?_ ?_ (λb hb=>?_) (λe=>by cases e)
  .rcases hc with rfl|rfl|rfl|rfl|rfl<;>decide
  .rcases hc with rfl|rfl|rfl|rfl|rfl<;>decide
  .rcases hc with rfl|rfl|rfl|rfl|rfl<;>decide
  .have hb':b.toNat≠61/\b.toNat≠43/\b.toNat≠45/\b.toNat≠38/\b.toNat≠94:=by
    rcases hr b hb with g|rfl
    .simp only[ExT.noP,List.mem_cons,List.mem_nil_iff,or_false,not_or]at g;omega
    .decide
   generalize b.toNat=y at *;rcases hc with rfl|rfl|rfl|rfl|rfl<;>simp[signs3,signs2]<;>omega
 simp only[ExT.unW,List.mem_cons,List.mem_nil_iff,or_false]at hw;rcases hw with rfl|rfl|rfl|rfl|rfl|rfl
 .exact one _ Ob h
 .exact one _ Ob h
 .exact one _ Ob h
 .exact one _ Ob h
 .exact one _ Ob h
 .refine zKo (w:=[60,45]) h Ob V V ?_ (λe=>by cases e) (λe=>by cases e) (λe=>by cases e);exact sg_2 V _ (λb _=>by simp[signs3])
theorem yIo{w:List UInt8}{r:List UInt8}(h:u.data.toList.drop i=w++(32::r))(hw:∃n,n<5/\w∈[wL1,wL2,wL3,wL4,wL5].getD n []):Lx u i [.sg w] (i+w.length) false:=by
 have one:∀c:UInt8,c.toNat∈sgB->[c.toNat]∈signs1->(∀m∈signs3,m.take 2≠[c.toNat,32])->[c.toNat,32]∉signs2->c≠46->c.toNat≠0->u.data.toList.drop i=[c]++(32::r)->Lx u i [.sg [c]] (i+[c].length) false:=λc h1 h2 h3 h4 h5 h0 h=>by
  refine zKo (w:=[c]) h Ob h1 (λb hb=>by rw[List.mem_singleton]at hb;subst hb;exact⟨(zHq _ h1).1,h0⟩) ?_ (λ_=>⟨rfl,rfl⟩) (λe=>absurd e h5) (λe=>by cases e);refine sg_1 h2 _ λb hb=>?_;obtain rfl:32=b:=Option.some.inj hb;exact⟨h3,h4⟩
 have two:∀c d:UInt8,c.toNat∈sgB->d.toNat<128/\d.toNat≠0->[c.toNat,d.toNat]∈signs2->[c.toNat,d.toNat,32]∉signs3->c≠46/\c≠47->u.data.toList.drop i=[c,d]++(32::r)->Lx u i [.sg [c,d]] (i+[c,d].length) false:=λc d h1 hd h2 h3 h5 h=>by
  refine zKo (w:=[c,d]) h Ob h1 (λb hb=>?_) ?_ (λe=>absurd e h5.2) (λe=>absurd e h5.1) (λe=>by cases e)
  .rcases List.mem_cons.1 hb with rfl|hb
   .exact⟨(zHq _ h1).1,(zHq _ h1).2.1⟩
   .rw[List.mem_singleton]at hb;subst hb;exact hd
  .refine sg_2 h2 _ λb hb=>?_;obtain rfl:32=b:=Option.some.inj hb;exact h3
 obtain⟨n,hn,hw⟩:=hw;have:n=0\/n=1\/n=2\/n=3\/n=4:=Z;rcases this with rfl|rfl|rfl|rfl|rfl<;>simp only[List.getD_cons_zero,List.getD_cons_succ,wL1,wL2,wL3,wL4,wL5,List.mem_cons,List.mem_nil_iff,or_false]at hw
 .subst hw;exact two _ _ V V V V V h
 .subst hw;exact two _ _ V V V V V h
 .rcases hw with rfl|rfl|rfl|rfl|rfl|rfl
  .exact two _ _ V V V V V h
  .exact two _ _ V V V V V h
  .exact one _ V V V V V V h
  .exact two _ _ V V V V V h
  .exact one _ V V V V V V h
  .exact two _ _ V V V V V h
 .rcases hw with rfl|rfl|rfl|rfl<;>exact one _ V V V V V V h
 .rcases hw with rfl|rfl|rfl|rfl|rfl|rfl|rfl
  .exact one _ V V V V V V h
  .exact one _ V V V V V V h
  .exact one _ V V V V V V h
  .exact two _ _ V V V V V h
  .exact two _ _ V V V V V h
  .exact one _ V V V V V V h
  .exact two _ _ V V V V V h
theorem zZv{w:List UInt8}(hw:∃n,n<5/\w∈[wL1,wL2,wL3,wL4,wL5].getD n []):∃b r,w=b::r/\blankB b.toNat=false:=by
 obtain⟨n,hn,hw⟩:=hw;have:n=0\/n=1\/n=2\/n=3\/n=4:=Z;rcases this with rfl|rfl|rfl|rfl|rfl<;>simp only[List.getD_cons_zero,List.getD_cons_succ,wL1,wL2,wL3,wL4,wL5,List.mem_cons,List.mem_nil_iff,or_false]at hw
 .subst hw;exact⟨_,_,rfl,V⟩
 .subst hw;exact⟨_,_,rfl,V⟩
 .rcases hw with rfl|rfl|rfl|rfl|rfl|rfl<;>exact⟨_,_,rfl,V⟩
 .rcases hw with rfl|rfl|rfl|rfl<;>exact⟨_,_,rfl,V⟩
 .rcases hw with rfl|rfl|rfl|rfl|rfl|rfl|rfl<;>exact⟨_,_,rfl,V⟩
end
def numB:List Nat:=[46,48,49,50,51,52,53,54,55,56,57]
theorem yHh:∀c∈numB,c<128/\blank c=false/\letter c=false/\isMark c=false/\c≠59/\c≠47/\c≠65279:=by
 unfold letter;decide +kernel
theorem zZw{s:ByteArray}{i:Nat}(hi:i<s.size)(hb:bt s i∈numB):(lex s i).1≠1:=by
 obtain⟨k1,k2,k3,k4,k5,k6,k7⟩:=yHh _ hb;have hr:=vF hi k1;unfold lex;rw[hr];simp only[];rw[iN k7,iN (by rw[k2];decide),iN Z,iN Z,iN (by rw[k3];decide),iN k5,zQe k4];split
 .unfold numScan;split
  .split
   .have:=zOt (zA (s.extract ((i:Int)).toNat (numEnd s ((i:Int)).toNat)));simp only[];omega
   .simp
  .simp
 .simp only[];rw[iN Ob];split<;>simp
theorem yEo{w:ByteArray}(hw:NmW w):∃b r,w.data.toList=b::r/\b.toNat∉numB/\b.toNat∉ExT.noP:=by
 obtain⟨b,r,h1,h3⟩:=ExT.word_no hw ExT.nmK;obtain⟨s,a,q,hq,h0,hle,he,hl,_,_⟩:=hw;refine⟨b,r,h1,λhb=>?_,h3⟩;have g1:=gZ (s:=s) (i:=a) (e:=a+w.size) (j:=0) Z hle;rw[he,Nat.add_zero]at g1;have g2:bt w 0=b.toNat:=(zM (u:=w) (i:=0) (b:=b) (r:=r) (by simpa using h1)).2.1;have:=zZw (s:=s) (i:=a) Z (by rw[<-g1,g2];exact hb);rw[hl]at this;exact this hq
def NxA(z:ExT)(r:List UInt8):Prop:=∀b,r.head?=some b->b.toNat∈enL/\(b.toNat=46->z.srt=1/\7<=z.lvl/\z.isLit=false)
theorem NxA.of{z:ExT}{b:UInt8}{r:List UInt8}(h:b.toNat∈enL:=by decide)(h46:b.toNat≠46:=by decide):NxA z (b::r):=λc hc=>by
 obtain rfl:b=c:=Option.some.inj hc;exact⟨h,λe=>absurd e h46⟩
theorem zOu{w:ByteArray}{r:List UInt8}(hw:NmW w):∀b,(w.data.toList++r).head?=some b->b.toNat∉numB:=λb hb=>by
 obtain⟨c,t,h1,h2,_⟩:=yEo hw;rw[h1]at hb;obtain rfl:c=b:=Option.some.inj hb;exact h2
section
variable {u:ByteArray} {i:Nat}
theorem zZx{r:List UInt8}(h:u.data.toList.drop i=46::r)(hr:∀b,r.head?=some b->b.toNat∉numB):Lx u i [.sg [46]] (i+1) false:=by
 refine zKo (w:=[46]) (r:=r) h Ob V (λb hb=>by rw[List.mem_singleton]at hb;subst hb;decide) ?_ (λe=>by cases e) (λ_ b hb=>?_) (λe=>by cases e)
 .refine sg_1 V _ λb hb=>?_;rw[List.head?_map,Option.map_eq_some_iff]at hb;obtain⟨b',b1,rfl⟩:=hb;have:=hr _ b1;simp only[numB,List.mem_cons,List.mem_nil_iff,or_false,not_or]at this;generalize b'.toNat=y at *;simp[signs3,signs2];omega
 .have hb:r.head?=some b:=by cases r<;>simpa using hb
  have:=hr _ hb;simp only[numB,List.mem_cons,List.mem_nil_iff,or_false,not_or]at this;generalize b.toNat=y at *;unfold dval
  repeat' split
  all_goals omega
theorem zHr{r:List UInt8}(h:u.data.toList.drop i=58::r)(hr:∀b,r.head?=some b->b.toNat≠61):Lx u i [.sg [58]] (i+1) false:=by
 refine zMb h V V V (λb hb=>?_) (λe=>by cases e);have:=hr b hb;generalize b.toNat=y at *;simp[signs3,signs2];omega
theorem yEp{r:List UInt8}(h:u.data.toList.drop i=42::r)(hr:∀b,r.head?=some b->b.toNat≠61):Lx u i [.sg [42]] (i+1) false:=by
 refine zMb h V V V (λb hb=>?_) (λe=>by cases e);have:=hr b hb;generalize b.toNat=y at *;simp[signs3,signs2];omega
theorem yEq{r:List UInt8}(h:u.data.toList.drop i=[46,46,46]++r):Lx u i [.sg [46,46,46]] (i+3) false:=by
 refine zKo (w:=[46,46,46]) (r:=r) h Ob V V ?_ (λe=>by cases e) (λ_ b hb=>?_) (λe=>by cases e)
 .unfold signL;rw[iP]
  .rfl
  .exact List.contains_iff_mem.2 (by simp[signs3])
 .obtain rfl:46=b:=by simpa using hb
  decide
end
namespace ExT
theorem none_txt{d:ExT}(h:d.srt=1\/d.srt=2)(hw:d.wlx)(ho:d.wok)(hg:d.gok):d.txt=[]↔d.isNone=true:=by
 constructor
 .intro e;rcases h with h|h
  .obtain⟨b,r,h1,_⟩:=fa d h hw ho hg;rw[e]at h1;cases h1
  .cases d<;>first|rfl|(exfalso;simp only[srt]at h;(try split at h)<;>omega)
 .intro e;cases d<;>first|rfl|(cases e)
theorem f2{d:ExT}(h:d.srt=1\/d.srt=2)(hw:d.wlx)(ho:d.wok)(hg:d.gok){c:UInt8}{r:List UInt8}(hc:c.toNat≠61):∀b,(d.txt++c::r).head?=some b->b.toNat≠61:=λb hb=>by
 rcases h with h|h
 .obtain⟨x,t,h1,h2⟩:=fa d h hw ho hg;rw[h1]at hb;obtain rfl:x=b:=Option.some.inj hb;intro e;exact h2 (by rw[e];decide)
 .have e:d.txt=[]:=by cases d<;>first|rfl|(exfalso;simp only[srt]at h;(try split at h)<;>omega)
  rw[e]at hb;obtain rfl:c=b:=Option.some.inj hb;exact hc
theorem wsz(w:ByteArray):w.data.toList.length=w.size:=(size_data w).symm
end ExT
theorem lx_x(u:ByteArray):∀z:ExT,z.srt≠0->z.wlx->z.wok->z.gok->∀(i:Nat)(r:List UInt8),u.data.toList.drop i=z.txt++r->NxA z r->Lx u i z.toks (i+z.txt.length) (decide (z.srt=1))
 | .none,_,_,_,_,i,r,h,hr=>Lx.refl u i
 | .nil,_,_,_,_,i,r,h,hr=>Lx.refl u i
 | .name w,_,hw,_,_,i,r,h,hr=>(zGw (x:=.nm w) (f:=true) hw ExT.nmK (λk hk e he=>⟨hk,he⟩) h (λb hb=>⟨(hr b hb).1,λ_ k hk=>hk⟩)).cast rfl (by rw[ExT.txt,ExT.wsz])
 | .lit w,_,hw,_,_,i,r,h,hr=>(zGw (x:=.lt w) (f:=true) hw ExT.ltK (λk hk e he=>⟨hk,he⟩) h (λb hb=>⟨(hr b hb).1,λe=>by have:=((hr b hb).2 e).2.2;cases this⟩)).cast rfl (by rw[ExT.txt,ExT.wsz])
 | .paren a,h0,hw,ho,hg,i,r,h,hr=>by
  have ha:a.srt=1:=by simp only[ExT.srt]at h0;split at h0<;>first|assumption|omega
  have h1:u.data.toList.drop i=40::(a.txt++41::r):=by rw[h,ExT.txt];simp
  have h2:=(zM h1).2.2;have h3:=dl h2;have A:=vS (f:=false) h1 Ob (λe=>by cases e);have B:=lx_x u a Z hw ho hg _ _ h2 .of;have C:=vS (f:=true) h3 Ob (λ_=>Or.inl rfl);refine(((A.trans B).trans C).cast ?_ ?_).weak
  .simp[ExT.toks]
  .simp[ExT.txt];omega
 | .star a,h0,hw,ho,hg,i,r,h,hr=>by
  have ha:a.srt=1:=by simp only[ExT.srt]at h0;split at h0<;>first|assumption|omega
  have h1:u.data.toList.drop i=42::(a.txt++r):=by rw[h,ExT.txt];simp
  have h2:=(zM h1).2.2;have A:=yEp h1 (λb hb=>by
   obtain⟨x,t,e1,e2⟩:=ExT.fa a ha hw ho hg.2;rw[e1]at hb;obtain rfl:x=b:=Option.some.inj hb;intro e;exact e2 (by rw[e];decide))
  have B:=lx_x u a Z hw ho hg.2 _ _ h2 (λb hb=>⟨(hr b hb).1,λe=>by have:=((hr b hb).2 e).2.1;simp[ExT.lvl]at this⟩);rw[ha]at B;refine((A.trans B).cast ?_ ?_).weak
  .simp[ExT.toks]
  .simp[ExT.txt];omega
 | .un w a,h0,hw,ho,hg,i,r,h,hr=>by
  have ha:a.srt=1:=by simp only[ExT.srt]at h0;split at h0<;>first|assumption|omega
  have how:w.data.toList∈ExT.unW:=by rw[<-ByteArray.toList_eq];exact ho.2
  by_cases hu:a.isUn=true
  .have h1:u.data.toList.drop i=w.data.toList++(32::(a.txt++r)):=by rw[h,ExT.txt,iP hu];simp
   have h2:=dl h1;have h3:=(zM h2).2.2;have A:=yGl h1 how (λb hb=>Or.inr (Option.some.inj hb).symm);have A2:=fP h2 (λb hb=>by
    obtain⟨x,t,e1,e2⟩:=ExT.fa a ha hw ho.1 hg.2;rw[e1]at hb;obtain rfl:x=b:=Option.some.inj hb;exact zSb e2)
   have B:=lx_x u a Z hw ho.1 hg.2 _ _ h3 (λb hb=>⟨(hr b hb).1,λe=>by have:=((hr b hb).2 e).2.1;simp[ExT.lvl]at this⟩);rw[ha]at B;refine(((A.trans A2).trans B).cast ?_ ?_).weak
   .simp[ExT.toks,ByteArray.toList_eq]
   .simp[ExT.txt,hu];omega
  .have h1:u.data.toList.drop i=w.data.toList++(a.txt++r):=by rw[h,ExT.txt,iN hu];simp
   have h2:=dl h1;have A:=yGl h1 how (λb hb=>Or.inl (by
    obtain⟨x,t,e1,e2⟩:=ExT.fp a ha hw hg.2 hg.1 (by simpa using hu);rw[e1]at hb;obtain rfl:x=b:=Option.some.inj hb;exact e2))
   have B:=lx_x u a Z hw ho.1 hg.2 _ _ h2 (λb hb=>⟨(hr b hb).1,λe=>by have:=((hr b hb).2 e).2.1;simp[ExT.lvl]at this⟩);rw[ha]at B;refine((A.trans B).cast ?_ ?_).weak
   .simp[ExT.toks,ByteArray.toList_eq]
   .simp[ExT.txt,hu];omega
 | .bin w a b,h0,hw,ho,hg,i,r,h,hr=>by
  have ha:a.srt=1/\b.srt=1:=by simp only[ExT.srt]at h0;split at h0<;>first|assumption|omega
  have how:∃n,n<5/\w.data.toList∈[wL1,wL2,wL3,wL4,wL5].getD n []:=by rw[<-ByteArray.toList_eq];exact ho.2.2
  have h1:u.data.toList.drop i=a.txt++(32::(w.data.toList++(32::(b.txt++r)))):=by rw[h,ExT.txt];simp
  have h2:=dl h1;have h3:=(zM h2).2.2;have h4:=dl h3;have h5:=(zM h4).2.2;have A:=lx_x u a Z hw.1 ho.1 hg.2.2.1 _ _ h1 .of;have B:=fP h2 (λc hc=>by
   obtain⟨x,t,e1,e2⟩:=zZv how;rw[e1]at hc;obtain rfl:x=c:=Option.some.inj hc;exact e2)
  have C:=yIo h3 how;have D:=fP h4 (λc hc=>by
   obtain⟨x,t,e1,e2⟩:=ExT.fa b ha.2 hw.2 ho.2.1 hg.2.2.2;rw[e1]at hc;obtain rfl:x=c:=Option.some.inj hc;exact zSb e2)
  have F:=lx_x u b Z hw.2 ho.2.1 hg.2.2.2 _ _ h5 (λc hc=>⟨(hr c hc).1,λe=>by have h7:=((hr c hc).2 e).2.1;have:=ExT.lvW_le w;simp only[ExT.lvl]at h7;omega⟩);rw[ha.2]at F;refine(((((A.trans B).trans C).trans D).trans F).cast ?_ ?_).weak
  .simp[ExT.toks,ByteArray.toList_eq]
  .simp[ExT.txt];omega
 | .sel a w,h0,hw,ho,hg,i,r,h,hr=>by
  have ha:a.srt=1:=by simp only[ExT.srt]at h0;split at h0<;>first|assumption|omega
  by_cases hl:a.isLit=true
  .have h1:u.data.toList.drop i=a.txt++(32::46::(w.data.toList++r)):=by rw[h,ExT.txt,iP hl];simp
   have h2:=dl h1;have h3:=(zM h2).2.2;have h4:=(zM h3).2.2;have A:=lx_x u a Z hw.1 ho hg.2 _ _ h1 .of;have B:=fP h2 (λc hc=>by obtain rfl:46=c:=Option.some.inj hc;rfl);have C:=zZx h3 (zOu hw.2);have D:=zGw (x:=.nm w) (f:=true) hw.2 ExT.nmK (λk hk e he=>⟨hk,he⟩) h4 (λb hb=>⟨(hr b hb).1,λ_ k hk=>hk⟩);refine((((A.trans B).trans C).trans D).cast ?_ ?_).weak
   .simp[ExT.toks]
   .simp[ExT.txt,hl,ExT.wsz];omega
  .have h1:u.data.toList.drop i=a.txt++(46::(w.data.toList++r)):=by rw[h,ExT.txt,iN hl];simp
   have h2:=dl h1;have h3:=(zM h2).2.2;have A:=lx_x u a Z hw.1 ho hg.2 _ _ h1 (λc hc=>by
    obtain rfl:46=c:=Option.some.inj hc;exact⟨V,λ_=>⟨ha,hg.1,by simpa using hl⟩⟩)
   have C:=zZx h2 (zOu hw.2);have D:=zGw (x:=.nm w) (f:=true) hw.2 ExT.nmK (λk hk e he=>⟨hk,he⟩) h3 (λb hb=>⟨(hr b hb).1,λ_ k hk=>hk⟩);refine(((A.trans C).trans D).cast ?_ ?_).weak
   .simp[ExT.toks]
   .simp[ExT.txt,hl,ExT.wsz];omega
 | .index a t,h0,hw,ho,hg,i,r,h,hr=>by
  have ha:a.srt=1/\t.srt=3/\1<=t.cnt:=by simp only[ExT.srt]at h0;split at h0<;>first|assumption|omega
  have h1:u.data.toList.drop i=a.txt++(91::(t.txt++(93::r))):=by rw[h,ExT.txt];simp
  have h2:=dl h1;have h3:=(zM h2).2.2;have h4:=dl h3;have A:=lx_x u a Z hw.1 ho.1 hg.2.1 _ _ h1 .of;have B:=vS (f:=false) h2 Ob (λe=>by cases e);have C:=lx_x u t Z hw.2 ho.2 hg.2.2 _ _ h3 .of;have D:=vS (f:=true) h4 Ob (λ_=>Or.inr rfl);refine((((A.trans B).trans C).trans D).cast ?_ ?_).weak
  .simp[ExT.toks]
  .simp[ExT.txt];omega
 | .slice a b c d,h0,hw,ho,hg,i,r,h,hr=>by
  have ha:a.srt=1/\(b.srt=1\/b.srt=2)/\(c.srt=1\/c.srt=2)/\(d.srt=1\/d.srt=2)/\(c.srt=2->d.srt=2):=by simp only[ExT.srt]at h0;split at h0<;>first|assumption|omega
  have hd:=ExT.none_txt ha.2.2.2.1 hw.2.2.2 ho.2.2.2 hg.2.2.2.2;by_cases hn:d.isNone=true
  .have h1:u.data.toList.drop i=a.txt++(91::(b.txt++(58::(c.txt++(93::r))))):=by rw[h,ExT.txt,iP (hd.2 hn)];simp
   have h2:=dl h1;have h3:=(zM h2).2.2;have h4:=dl h3;have h5:=(zM h4).2.2;have h6:=dl h5;have A:=lx_x u a Z hw.1 ho.1 hg.2.1 _ _ h1 .of;have B:=vS (f:=false) h2 Ob (λe=>by cases e);have C:=lx_x u b Z hw.2.1 ho.2.1 hg.2.2.1 _ _ h3 .of;have D:=zHr h4 (ExT.f2 ha.2.2.1 hw.2.2.1 ho.2.2.1 hg.2.2.2.1 V);have F:=lx_x u c Z hw.2.2.1 ho.2.2.1 hg.2.2.2.1 _ _ h5 .of;have G:=vS (f:=true) h6 Ob (λ_=>Or.inr rfl);refine((((((A.trans B).trans C).trans D).trans F).trans G).cast ?_ ?_).weak
   .simp[ExT.toks,hn]
   .simp[ExT.txt,hd.2 hn];omega
  .have hn':d.txt≠[]:=λe=>hn (hd.1 e)
   have h1:u.data.toList.drop i=a.txt++(91::(b.txt++(58::(c.txt++(58::(d.txt++(93::r))))))):=by rw[h,ExT.txt,iN hn'];simp
   have h2:=dl h1;have h3:=(zM h2).2.2;have h4:=dl h3;have h5:=(zM h4).2.2;have h6:=dl h5;have h7:=(zM h6).2.2;have h8:=dl h7;have A:=lx_x u a Z hw.1 ho.1 hg.2.1 _ _ h1 .of;have B:=vS (f:=false) h2 Ob (λe=>by cases e);have C:=lx_x u b Z hw.2.1 ho.2.1 hg.2.2.1 _ _ h3 .of;have D:=zHr h4 (ExT.f2 ha.2.2.1 hw.2.2.1 ho.2.2.1 hg.2.2.2.1 V);have F:=lx_x u c Z hw.2.2.1 ho.2.2.1 hg.2.2.2.1 _ _ h5 .of;have D':=zHr h6 (ExT.f2 ha.2.2.2.1 hw.2.2.2 ho.2.2.2 hg.2.2.2.2 V);have F':=lx_x u d Z hw.2.2.2 ho.2.2.2 hg.2.2.2.2 _ _ h7 .of;have G:=vS (f:=true) h8 Ob (λ_=>Or.inr rfl);refine((((((((A.trans B).trans C).trans D).trans F).trans D').trans F').trans G).cast ?_ ?_).weak
   .simp[ExT.toks,hn]
   .simp[ExT.txt,hn'];omega
 | .call a t w,h0,hw,ho,hg,i,r,h,hr=>by
  have ha:a.srt=1/\t.srt=3/\(w≠bE0->1<=t.cnt):=by simp only[ExT.srt]at h0;split at h0<;>first|assumption|omega
  rcases ho.2.2 with e|e
  .subst e;have h1:u.data.toList.drop i=a.txt++(40::(t.txt++(41::r))):=by rw[h,ExT.txt,iP (show bE0.size=0 from rfl)];simp
   have h2:=dl h1;have h3:=(zM h2).2.2;have h4:=dl h3;have A:=lx_x u a Z hw.1 ho.1 hg.2.1 _ _ h1 .of;have B:=vS (f:=false) h2 Ob (λe=>by cases e);have C:=lx_x u t Z hw.2 ho.2.1 hg.2.2 _ _ h3 .of;have D:=vS (f:=true) h4 Ob (λ_=>Or.inl rfl);refine((((A.trans B).trans C).trans D).cast ?_ ?_).weak
   .rw[ExT.toks,iP (show bE0.size=0 from rfl)];simp
   .rw[ExT.txt,iP (show bE0.size=0 from rfl)];simp;omega
  .rw[ByteArray.toList_eq]at e;have hz:w.size≠0:=by rw[size_data,e];decide
   have h1:u.data.toList.drop i=a.txt++(40::(t.txt++(32::([46,46,46]++(41::r))))):=by rw[h,ExT.txt,iN hz,e];simp
   have h2:=dl h1;have h3:=(zM h2).2.2;have h4:=dl h3;have h5:=(zM h4).2.2;have h6:=dl h5;have A:=lx_x u a Z hw.1 ho.1 hg.2.1 _ _ h1 .of;have B:=vS (f:=false) h2 Ob (λe=>by cases e);have C:=lx_x u t Z hw.2 ho.2.1 hg.2.2 _ _ h3 .of;have D:=fP h4 (λc hc=>by obtain rfl:46=c:=Option.some.inj hc;rfl);have F:=yEq h5;have G:=vS (f:=true) h6 Ob (λ_=>Or.inl rfl);refine((((((A.trans B).trans C).trans D).trans F).trans G).cast ?_ ?_).weak
   .rw[ExT.toks,iN hz,ByteArray.toList_eq,e];simp
   .rw[ExT.txt,iN hz,e];simp;omega
 | .cons a t,h0,hw,ho,hg,i,r,h,hr=>by
  have ha:a.srt=1/\t.srt=3:=by simp only[ExT.srt]at h0;split at h0<;>first|assumption|omega
  have hs:(ExT.cons a t).srt=3:=by simp[ExT.srt,ha]
  have hr':∀b,r.head?=some b->b.toNat∈enL/\b.toNat≠46:=λb hb=>⟨(hr b hb).1,λe=>by have:=((hr b hb).2 e).1;rw[hs]at this;cases this⟩
  rw[hs];by_cases hn:t.isNil=true
  .have h1:u.data.toList.drop i=a.txt++r:=by rw[h,ExT.txt,iP hn];simp
   have A:=lx_x u a Z hw.1 ho.1 hg.1 _ _ h1 (λb hb=>⟨(hr' b hb).1,λe=>absurd e (hr' b hb).2⟩);rw[ha.1]at A;refine(Lx.cast (Lx.weak A) ?_ ?_)
   .rw[ExT.toks,iP hn];simp
   .rw[ExT.txt,iP hn];simp
  .have h1:u.data.toList.drop i=a.txt++(44::32::(t.txt++r)):=by rw[h,ExT.txt,iN hn];simp
   have h2:=dl h1;have h3:=(zM h2).2.2;have h4:=(zM h3).2.2;have A:=lx_x u a Z hw.1 ho.1 hg.1 _ _ h1 .of;have B:=vS (f:=false) h2 Ob (λe=>by cases e);have C:=fP h3 (λc hc=>by
    cases t with
    |cons b q =>
     have hb:b.srt=1:=by have:=ha.2;simp only[ExT.srt]at this;split at this<;>first|(rename_i k;exact k.1)|omega
     obtain⟨x,s,e1,e2⟩:=ExT.fa b hb hw.2.1 ho.2.1 hg.2.1;rw[ExT.txt,e1]at hc;obtain rfl:x=c:=Option.some.inj hc;exact zSb e2
    |nil=>exact absurd rfl hn
    |none|name|lit=>exact absurd ha.2 (by simp[ExT.srt])
    |paren|sel|index|slice|call|star|un|bin=>exfalso;have:=ha.2;simp only[ExT.srt]at this;split at this<;>omega)
   have D:=lx_x u t Z hw.2 ho.2 hg.2 _ _ h4 (λb hb=>⟨(hr' b hb).1,λe=>absurd e (hr' b hb).2⟩);rw[ha.2]at D;refine((((A.trans B).trans C).trans D).cast ?_ ?_)
   .rw[ExT.toks,iN hn];simp
   .rw[ExT.txt,iN hn];simp;omega
end Go.Proofs.YtfpjdpdmgceciaaGreatDoor
namespace Go.Proofs.YtfpjdpdmgceciaaGreatDoor
set_option maxRecDepth 100000
set_option maxHeartbeats 32000000
set_option linter.all false
attribute [local irreducible] Calls
attribute [local irreducible] wpStill
open Go.RowKit
structure TX(s:ByteArray)(x:ExT):Prop where
 n:(nestAll s).2.2.2=(0,0)
 t:TXL s (nestAll s).1 x
@[irreducible] def RR(s:ByteArray)(gl:Nat)(x:ExT)(w0:World)(e:Ending)(W':World):Prop :=
 Below w0.heap.size w0 W'/\((∃(E:SynE) (g k:Nat) (gs:List Nat) (ps:List Prt),E.s=s/\E.toks=(nestAll s).1/\e=.returned (.tuple #[E.vt,ptrV g,.agg #[.int .i64 0,.int .i64 0]])/\TokRow W' E.vt E.toks/\(∀t∈E.toks,(0<=t.1/\t.1<256)/\t.2.1<=t.2.2/\t.2.2<=s.size)/\s.size<=65536/\E.N<=65537/\Good E W' (λb=>w0.heap.size<=b/\b<W'.heap.size) g k gs ps/\(ps.length:Int)<=8*(E.N:Int)+10/\(TX s x/\gl=2->ps=x.flat)/\(gl=2->X1 ps)/\(nestAll s).2.2.2=(0,0))\/
  (∃(va:Option Addr) (vn vc:Nat),∃f a:Int,e=.returned (.tuple #[.slice va vn vc,.pointer none,.agg #[.int .i64 f,.int .i64 a]])/\f≠0/\¬(TX s x/\gl=2)))
theorem FK.cells{W:World}{g:Nat}{e a:Int}(h:FK W g e a):W.cell? ⟨g,0,none⟩=some (.int .i64 e)/\W.cell? ⟨g,1,none⟩=some (.int .i64 a)/\∀i,W.frozen? ⟨g,i,none⟩=false:=by
 unfold FK at h;simp[World.cell?,World.frozen?,h]
theorem FK.other{W:World}{g:Nat}{e a:Int}(h:FK W g e a){c:Nat}(hc:g≠c)(i:Nat)(v:Value):FK (W.setCell ⟨c,i,none⟩ v) g e a:=by
 unfold FK at *;rw[heap_setCell_other _ _ _ _ hc];exact h
theorem TokRow.on{w w':World}{v:Value}{l:List (Int×Nat×Nat)}{B:Nat}(h:TokRow w v l)(hn:NewV B v)(hs:w.heap.size<=w'.heap.size)(hk:∀b,B<=b->b<w.heap.size->w'.heap[b]?=w.heap[b]?):TokRow w' v l:=by
 obtain⟨a,cap,hv,hc,h2⟩:=h;refine⟨a,cap,hv,hc,λhpos=>?_⟩;obtain⟨b,ha,hbl,hcell⟩:=h2 hpos;have hB:B<=b:=hn b (by rw[hv,ha];rfl);have e:∀i,w'.cell? ⟨b,i,Option.none⟩=w.cell? ⟨b,i,Option.none⟩:=λi=>by simp[World.cell?,hk b hB hbl]
 exact⟨b,ha,Z,λi hi=>by rw[e,e,e];exact hcell i hi⟩
theorem zKy(w6:World){b p q:Nat}(hp:b≠p)(hq:b≠q)(x1 x2 x3 x4:Value):((((w6.setCell ⟨p,0,none⟩ x1).setCell ⟨p,1,none⟩ x2).setCell ⟨q,0,none⟩ x3).setCell ⟨q,1,none⟩ x4).drew.heap[b]?=w6.heap[b]?:=by
 show(((((w6.setCell ⟨p,0,none⟩ x1).setCell ⟨p,1,none⟩ x2).setCell ⟨q,0,none⟩ x3).setCell ⟨q,1,none⟩ x4).heap)[b]?=w6.heap[b]?;rw[heap_setCell_other _ _ _ _ hq,heap_setCell_other _ _ _ _ hq,heap_setCell_other _ _ _ _ hp,heap_setCell_other _ _ _ _ hp]
section
theorem yAh(s:ByteArray)(hs:s.size<=2147483647)(gl:Nat)(hg:gl=2)(w:World)(hT:Tabs w)(hM:MaxC w)(x:ExT):Calls Tryz.prog 12 #[.int .u8 (gl:Int),.string s] w (RR s gl x w):=by
 have HG2:=Hd hg;replace hg:1<=gl/\gl<=4:=Z;have CN:=Hd (λW (hb:Below w.heap.size w W)=>yEn s hs W (hT.below hb) (hM.below hb));have HE:Hid (∀(tm:Array Value) W' v n e a,RR s gl x w (.returned (.tuple #[v,n,.agg #[.int .i64 e,.int .i64 a]])) W'->FK W' w.heap.size e a->tm.getD 6 undef=.pointer (some ⟨w.heap.size,0,none⟩)->tm.getD 4 undef=v->tm.getD 5 undef=n->bodyPost Tryz.prog Tryz.f12 (RR s gl x w) .ret ⟨tm,[]⟩ W') :=
  Hd λtm W' v n e a h1 h2 h3 h4 h5=>by
   refine bodyPost_ret (fB rfl tm W' w.heap.size 25 #[.int .i64 e,.int .i64 a] (0,0) _ h3 h2 Tryz.underlying25 rfl Oa) rfl ?_;rw[h4,h5];exact h1
 have hg1:¬(gl:Int)<1:=Z;have hg2:¬4<(gl:Int):=Z;clear hT hM;go_enter Tryz.func12,Tryz.ntmps12;go_wp2_with fail;have hb0:Below w.heap.size w (w.alloc (.cells #[.int .i64 0,.int .i64 0] 25)):=(bR _ _).alloc (nR _) _;have hk0:FK (w.alloc (.cells #[.int .i64 0,.int .i64 0] 25)) w.heap.size 0 0:=by unfold FK;exact heap_alloc_new _ _
 have hz0:w.heap.size<(w.alloc (.cells #[.int .i64 0,.int .i64 0] 25)).heap.size:=Ob;generalize(w.alloc (.cells #[.int .i64 0,.int .i64 0] 25))=w1 at *;refine(CN.out w1 hb0).mono ?_;intro e w2 h2;unfold nofPost at h2;cases hq:nestAll s with
 |mk l q =>
 obtain⟨p,m,ef,af⟩:=q;rw[hq]at h2;obtain⟨v1,v2,rfl,hb2,ht2,hp2,n1,n2⟩:=h2;simp only at ht2 hp2;have hk2:FK w2 w.heap.size 0 0:=by unfold FK at hk0 ⊢;rw[hb2.block _ hz0];exact hk0
 have hz2:w.heap.size<w2.heap.size:=Nat.lt_of_lt_of_le hz0 hb2.size;have HL:=Hd (zWl hq);have hbw:Below w.heap.size w w2:=zD hb0 hb2;clear CN;have HT2:=Hd ht2;have HP2:=Hd hp2;obtain⟨va,vc,hv1,-,-⟩:=id ht2;obtain⟨pa,pc,hv2,-,-⟩:=hp2.open';subst hv1;subst hv2;clear hp2;have HN1:=Hd n1;clear n1 n2;have HAW:Hid (TX s x->TXL s l x/\ef=0):=Hd (λe=>by obtain⟨h1,h2⟩:=e;rw[hq]at h1 h2;exact⟨h2,by simp at h1;exact h1.1⟩);rcases HL.out with hne|⟨rfl,rfl,hs6,hl6,hpl,hpb,hok⟩
 .obtain⟨c60,c61,z6⟩:=hk2.cells;go_wp2_with fail;go_region;go_wp2_with fail;refine HE.out _ _ _ _ ef af ?_ ?_ rfl rfl rfl
  .unfold RR;exact⟨(((hbw.setCell (p:=⟨w.heap.size,0,none⟩) (nR _) _).setCell (p:=⟨w.heap.size,1,none⟩) (nR _) _).alloc (by simp;omega) _).drew,Or.inr ⟨_,_,_,ef,af,rfl,hne,λh=>hne (HAW.out h.1).2⟩⟩
  .exact((hk2.fill ef af).alloc _).keep (bR _ _).drew
 .obtain⟨E,hE⟩:∃E:SynE,E=⟨s,l,p,.slice va l.length vc,.slice pa p.length pc,w2.alloc (.cells #[.int .i64 0,.int .i64 0] 25)⟩:=⟨_,rfl⟩;have hgr:E.gr=w2.heap.size+1:=by rw[hE];simp[SynE.gr]
  have hbA:Below w2.heap.size w2 (w2.alloc (.cells #[.int .i64 0,.int .i64 0] 25)):=(bR _ _).alloc (nR _) _;have F:SynF E:=by
   rw[hE];exact⟨ht2.below hbA,HP2.out.below hbA,hpl,hpb,hok,by show l.length<=1000000;omega,by show s.size<=1000000;omega⟩
  have HS0:Hid (St E ((w2.alloc (.cells #[.int .i64 0,.int .i64 0] 25)).alloc (.cells #[.string s,.slice va l.length vc,.slice pa p.length pc,.int .i64 0,.bool false] 46)) 0 []):=Hd (by
   subst hE;exact⟨⟨(bR _ _).alloc (nR _) _,⟨false,heap_alloc_new _ _⟩,Nat.zero_le _⟩,(λx hx=>by cases hx),(λx hx=>by cases hx),List.Pairwise.nil⟩)
  have HX:Hid (TX s x/\gl=2->Aw E x/\gl=2):=Hd λh=>⟨by subst hE;exact(HAW.out h.1).1,h.2⟩
  have HTR:=Hd (by have:=yBl x F HS0.out gl HG2.out;rw[hgr,hpl]at this;exact this);have hEs:E.s=s:=by rw[hE]
  have hEt:E.toks=l:=by rw[hE]
  have hEv:E.vt=.slice va l.length vc:=by rw[hE]
  have hEw:E.w0=w2.alloc (.cells #[.int .i64 0,.int .i64 0] 25):=by rw[hE]
  clear hE F HS0;go_wp2_with fail;refine HTR.out.mono ?_;intro e w6 h6;have hk9:FK (w2.alloc (.cells #[.int .i64 0,.int .i64 0] 25)) w2.heap.size 0 0:=by unfold FK;exact heap_alloc_new _ _
  have hk6:=hk2.alloc (.cells #[.int .i64 0,.int .i64 0] 25);have hbwA:=zD hbw hbA;have hT6:=ht2.below hbA;rw[<-hEw]at hk9 hk6 hbwA hT6;have hne9:w.heap.size≠w2.heap.size:=Nat.ne_of_lt hz2;have hne9':w2.heap.size≠w.heap.size:=Ne.symm hne9;unfold TR at h6;rcases h6 with⟨g,k,gs,ps,i,rfl,hst,hp,hxp,hgx⟩|⟨a,i,rfl,hst,hxp⟩;all_goals
   have hk9:=hk9.keep hst.r.below;have hk6:=hk6.keep hst.r.below;obtain⟨c60,c61,z6⟩:=hk6.cells;obtain⟨c90,c91,z9⟩:=hk9.cells;have hT6:=hT6.below hst.r.below;have hbw6:=zD hbwA hst.r.below;have HST:=Hd hst;have HXP:=Hd hxp;have hBB:∀x1 x2 x3 x4,Below w.heap.size w ((((w6.setCell ⟨w2.heap.size,0,none⟩ x1).setCell ⟨w2.heap.size,1,none⟩ x2).setCell ⟨w.heap.size,0,none⟩ x3).setCell ⟨w.heap.size,1,none⟩ x4).drew:=λx1 x2 x3 x4 =>
    ((((hbw6.setCell (p:=⟨w2.heap.size,0,none⟩) (by show w.heap.size<=w2.heap.size;omega) _).setCell (p:=⟨w2.heap.size,1,none⟩) (by show w.heap.size<=w2.heap.size;omega) _).setCell (p:=⟨w.heap.size,0,none⟩) (nR _) _).setCell (p:=⟨w.heap.size,1,none⟩) (nR _) _).drew
   have hB6:Below w2.heap.size w2 w6:=zD hbA (by rw[<-hEw];exact hst.r.below);have hB26:∀b,b<w2.heap.size->w6.heap[b]?=w2.heap[b]?:=λb h=>hB6.block b h;have hz26:w2.heap.size<=w6.heap.size:=hB6.size;clear hxp hst hB6 hk2 HTR hbwA hbA hEw
  .go_wp2_with fail;go_region;go_wp2_with fail;refine HE.out _ _ (.slice va l.length vc) (ptrV g) 0 0 ?_ (FK.keep (((hk6.other hne9 0 _).other hne9 1 _).fill 0 0) (bR _ _).drew) rfl rfl rfl;have hst:=HST.out;have hlt6:=hst.r.lt;unfold RR;refine⟨hBB _ _ _ _,Or.inl ⟨E,g,k,gs,ps,hEs,by rw[hEt,hq],by rw[hEv],?_,by rw[hEt];exact hok,hs6,by show E.toks.length<=65537;rw[hEt];exact hl6,?_,hp,λh=>HXP.out (HX.out h),hgx,by rw[hq]⟩⟩
   .rw[hEt,hEv];refine ht2.on HN1.out (by simp;omega) λb h1 h2=>?_;rw[zKy _ Z Z];exact hB26 b h2
   .refine Good.to (λb hb=>?_) (hst.ok _ (.head _));obtain⟨f1,f2,-⟩:=hb;rw[hgr]at f1;exact⟨zKy _ Z Z _ _ _ _,Z,by simpa using f2⟩
  .go_wp2_with fail;go_region;go_wp2_with fail;refine HE.out _ _ (.slice va l.length vc) (.pointer none) 7 a ?_ (FK.keep (((hk6.other hne9 0 _).other hne9 1 _).fill 7 a) (bR _ _).drew) rfl rfl rfl;unfold RR;exact⟨hBB _ _ _ _,Or.inr ⟨_,_,_,7,a,rfl,V,λh=>HXP.out (HX.out h)⟩⟩
end
def LW(s:ByteArray)(T:List (Int×Nat×Nat))(p:Prt):Prop:=(p.1=26->∃t∈T,t.1=1/\s.extract t.2.1 t.2.2=p.2.2)/\(p.1=27->∃t∈T,(3<=t.1/\t.1<=7)/\s.extract t.2.1 t.2.2=p.2.2)
@[irreducible] def TermQ(s:ByteArray)(gl:Nat)(x:ExT)(w0:World)(e:Ending)(W':World):Prop :=
 Below w0.heap.size w0 W'/\∃(v:Value) (l:List Prt) (f a:Int),e=.returned (.tuple #[v,.agg #[.int .i64 f,.int .i64 a]])/\zG W' v l/\(l.length<=1000000/\∀p∈l,p.1<256/\p.2.2.size<=1000000)/\(TX s x/\gl=2->f=0/\a=0/\l=x.flat)/\(gl=2->f=0->X1 l)/\(f=0->(nestAll s).2.2.2=(0,0)/\∀p∈l,LW s (nestAll s).1 p)
theorem zDc(s:ByteArray)(a b:Nat):(s.extract a b).size<=s.size:=by rw[ByteArray.size_extract];omega
theorem yHs{E:SynE}(hs:E.s.size<=1000000)(w:Int):(tokZ E w).size<=1000000:=by
 unfold tokZ;split
 .simp
 .split
  .exact Nat.le_trans (zDc _ _ _) hs
  .simp
theorem yFc{E:SynE}(hs:E.s.size<=1000000)(k:Nat)(w:Int):(textZ E k w).size<=1000000:=by
 rw[zQa]
 repeat' split
 all_goals first|exact yHs hs w|decide
theorem Good.small{E:SynE}(hs:E.s.size<=1000000){W:World}{F:Nat->Prop}{g k:Nat}{gs:List Nat}{ps:List Prt}(h:Good E W F g k gs ps):∀p∈ps,p.1<256/\p.2.2.size<=1000000:=by
 induction h with
 |mk g k word frm tx v gs pss h0 hc hw hr hkk hl kind kids ih ih2 =>
  intro p hp;rcases List.mem_cons.1 hp with rfl|hp
  .exact⟨hkk.1,yFc hs _ _⟩
  .obtain⟨q,hq,hpq⟩:=List.mem_flatten.1 hp;obtain⟨i,hi,rfl⟩:=List.getElem_of_mem hq;exact ih2 i Z hi p hpq
theorem zUx{E:SynE}{w:Int}(h:kindZ E w≠0)(k:Nat)(hk:k≠45):∃t∈E.toks,t.1=kindZ E w/\E.s.extract t.2.1 t.2.2=textZ E k w:=by
 unfold kindZ at h ⊢;by_cases c:w<0\/(E.N:Int)<=w
 .rw[iP c]at h;exact absurd rfl h
 .rw[iN c]at h ⊢;cases ht:E.toks[w.toNat]? with
  |none=>rw[ht]at h;exact absurd rfl h
  |some t =>
   refine⟨t,List.mem_of_getElem? ht,rfl,?_⟩;unfold textZ;rw[ht,iN hk,iN Z]
theorem Good.leafs{E:SynE}{W:World}{F:Nat->Prop}{g k:Nat}{gs:List Nat}{ps:List Prt}(h:Good E W F g k gs ps):ps.length<=1000000->∀p∈ps,LW E.s E.toks p:=by
 induction h with
 |mk g k word frm tx v gs pss h0 hc hw hr hkk hl kind kids ih ih2 =>
  intro hlen p hp;rw[lC]at hlen;rcases List.mem_cons.1 hp with rfl|hp
  .have hn:gs.length<=1000000000:=by
    have h1:pss.length<=pss.flatten.length:=zNc pss λq hq=>by
     obtain⟨i,hi,rfl⟩:=List.getElem_of_mem hq;exact(ih i Z hi).pos
    omega
   obtain⟨k1,k2⟩:=hkk.2.2 hn;refine⟨λe=>?_,λe=>?_⟩
   .obtain⟨t,t1,t2,t3⟩:=zUx (E:=E) (w:=word) (by rw[k1 e];decide) k (by simp only[]at e;omega);exact⟨t,t1,t2.trans (k1 e),t3⟩
   .have:=k2 e;obtain⟨t,t1,t2,t3⟩:=zUx (E:=E) (w:=word) Z k (by simp only[]at e;omega);exact⟨t,t1,by rw[t2];exact this,t3⟩
  .obtain⟨q,hq,hpq⟩:=List.mem_flatten.1 hp;obtain⟨i,hi,rfl⟩:=List.getElem_of_mem hq;exact ih2 i Z hi (by have:=zDs (gM (l:=pss) hi);omega) p hpq
theorem TmI.start(E:SynE)(sb tb:Nat):TmI E sb tb (E.gr+1) (E.gr+1+1) (E.gr+1+1+1) (.slice none 0 0) [] ((((E.w0.alloc (.cells #[.string E.s,E.vt,E.vp,.int .i64 0,.bool false] 46)).alloc (.cells #[ptrV E.gr] 44)).alloc (.cells #[.slice none 0 0] 22)).alloc (.cells #[walkV sb tb (E.gr+1) (E.gr+1+1) (E.gr+1+1+1)] 47)):=by
 have n1:=heap_alloc_new E.w0 (.cells #[.string E.s,E.vt,E.vp,.int .i64 0,.bool false] 46);have n2:=heap_alloc_new (E.w0.alloc (.cells #[.string E.s,E.vt,E.vp,.int .i64 0,.bool false] 46)) (.cells #[ptrV E.gr] 44);have n3:=heap_alloc_new ((E.w0.alloc (.cells #[.string E.s,E.vt,E.vp,.int .i64 0,.bool false] 46)).alloc (.cells #[ptrV E.gr] 44)) (.cells #[.slice none 0 0] 22);have n4:=heap_alloc_new (((E.w0.alloc (.cells #[.string E.s,E.vt,E.vp,.int .i64 0,.bool false] 46)).alloc (.cells #[ptrV E.gr] 44)).alloc (.cells #[.slice none 0 0] 22)) (.cells #[walkV sb tb (E.gr+1) (E.gr+1+1) (E.gr+1+1+1)] 47);have hg:E.w0.heap.size=E.gr:=rfl;simp only[World.size_alloc,hg]at n1 n2 n3 n4;refine⟨⟨((((bR _ _).alloc (nR _) _).alloc Ob _).alloc (by simp;omega) _).alloc (by simp;omega) _,⟨false,?_⟩,Nat.zero_le _⟩,?_,?_,?_,World.ownsRow_nil _ _ _ _,Z,Z,Z,by simp[hg]⟩
 .rw[Below.heap_alloc _ _ _ (by simp[hg];try omega),Below.heap_alloc _ _ _ (by simp[hg];try omega),Below.heap_alloc _ _ _ (by simp[hg])];exact n1
 .rw[Below.heap_alloc _ _ _ (by simp[hg];try omega),Below.heap_alloc _ _ _ (by simp[hg])];exact n2
 .rw[Below.heap_alloc _ _ _ (by simp[hg])];exact n3
 .exact n4
theorem zDt(s:ByteArray)(hs:s.size<=2147483647)(gl:Nat)(hg:gl=2)(w:World)(hT:Tabs w)(hM:MaxC w)(x:ExT):Calls Tryz.prog 4 #[.int .u8 (gl:Int),.string s] w (TermQ s gl x w):=by
 have HG2:=Hd hg;replace hg:1<=gl/\gl<=4:=Z;have CR:=Hd (λW (hb:Below w.heap.size w W)=>yAh s hs gl HG2.out W (hT.below hb) (hM.below hb) x);have HE:Hid (∀(tm:Array Value) W' v e a,TermQ s gl x w (.returned (.tuple #[v,.agg #[.int .i64 e,.int .i64 a]])) W'->FK W' (w.heap.size+1) e a->tm.getD 5 undef=.pointer (some ⟨w.heap.size+1,0,none⟩)->tm.getD 4 undef=v->bodyPost Tryz.prog Tryz.f4 (TermQ s gl x w) .ret ⟨tm,[]⟩ W') :=
  Hd λtm W' v e a h1 h2 h3 h4=>by
   refine bodyPost_ret (kX rfl tm W' (w.heap.size+1) 25 #[.int .i64 e,.int .i64 a] (0,0) _ h3 h2 Tryz.underlying25 rfl Oa) rfl ?_;rw[h4];exact h1
 have hmf:=mkf;clear hT hM;go_enter Tryz.func4,Tryz.ntmps4;go_wp2_with fail;have hb0:Below w.heap.size w ((w.alloc (.cells #[.string s] 9)).alloc (.cells #[.int .i64 0,.int .i64 0] 25)):=((bR _ _).alloc (nR _) _).alloc Ob _;have hk0:FK ((w.alloc (.cells #[.string s] 9)).alloc (.cells #[.int .i64 0,.int .i64 0] 25)) (w.heap.size+1) 0 0:=by unfold FK;have:=heap_alloc_new (w.alloc (.cells #[.string s] 9)) (.cells #[.int .i64 0,.int .i64 0] 25);simpa using this
 have hs0:((w.alloc (.cells #[.string s] 9)).alloc (.cells #[.int .i64 0,.int .i64 0] 25)).heap[w.heap.size]?=some (.cells #[.string s] 9 (0,0)):=by rw[Below.heap_alloc _ _ _ Ob];exact heap_alloc_new _ _
 have hz0:w.heap.size+1<((w.alloc (.cells #[.string s] 9)).alloc (.cells #[.int .i64 0,.int .i64 0] 25)).heap.size:=Ob;generalize((w.alloc (.cells #[.string s] 9)).alloc (.cells #[.int .i64 0,.int .i64 0] 25))=w1 at *;refine(CR.out w1 hb0).mono ?_;intro e w2 h2;unfold RR at h2;obtain⟨hb2,h2⟩:=h2;have hk2:=hk0.keep hb2;have hs2:w2.heap[w.heap.size]?=some (.cells #[.string s] 9 (0,0)):=keeps hb2 hs0;have hbw:=zD hb0 hb2;have hz2:w.heap.size+1<w2.heap.size:=Nat.lt_of_lt_of_le hz0 hb2.size;clear CR hb0 hb2 hk0 hs0;rcases h2 with⟨E,g,k,gs,ps,hEs,hEt,rfl,hrow,hok,hsz,hN,hG,hlen,hxp,hgx,hnn⟩|⟨va,vn,vc,f,a,rfl,hf,hx⟩
 .obtain⟨va,vc,hv,hcap,-⟩:=id hrow;have HR:=Hd hrow;have HEs:=Hd hEs;have HXP:=Hd hxp;have HGX:=Hd hgx;have HLF:Hid ((nestAll s).2.2.2=(0,0)/\∀p∈ps,LW s (nestAll s).1 p):=Hd ⟨hnn,by have:=Good.leafs hG (by unfold SynE.N at hN hlen;omega);rw[hEs,hEt]at this;exact this⟩;have HOK:=Hd hok;rw[hv];clear hrow hEs hEt hxp hok hgx hnn;go_upto_region 4 with(fail);have hbA:Below w2.heap.size w2 ((w2.alloc (.cells #[.slice va E.toks.length vc] 40)).alloc (.cells #[.int .i64 0,.int .i64 0] 25)):=((bR _ _).alloc (nR _) _).alloc Ob _;have ht3:((w2.alloc (.cells #[.slice va E.toks.length vc] 40)).alloc (.cells #[.int .i64 0,.int .i64 0] 25)).heap[w2.heap.size]?=some (.cells #[.slice va E.toks.length vc] 40 (0,0)):=by rw[Below.heap_alloc _ _ _ Ob];exact heap_alloc_new _ _
  have hf3:FK ((w2.alloc (.cells #[.slice va E.toks.length vc] 40)).alloc (.cells #[.int .i64 0,.int .i64 0] 25)) (w2.heap.size+1) 0 0:=by unfold FK;have:=heap_alloc_new (w2.alloc (.cells #[.slice va E.toks.length vc] 40)) (.cells #[.int .i64 0,.int .i64 0] 25);simpa using this
  have hz3:((w2.alloc (.cells #[.slice va E.toks.length vc] 40)).alloc (.cells #[.int .i64 0,.int .i64 0] 25)).heap.size=w2.heap.size+1+1:=Ob;have hk3:=hk2.keep hbA;have hs3:=keeps hbA hs2;have hbw3:=zD hbw hbA;have hR3:=HR.out.below hbA;have hG3:=Good.to (F':=λb=>b<w2.heap.size+1+1) (λb hb=>⟨hbA.block b hb.2,by have:=hb.2;omega⟩) hG;clear hG hbA hk2 hs2 hbw HR;generalize((w2.alloc (.cells #[.slice va E.toks.length vc] 40)).alloc (.cells #[.int .i64 0,.int .i64 0] 25))=w3 at *;have c_s:w3.cell? ⟨w.heap.size,0,none⟩=some (.string s):=by simp[World.cell?,hs3]
  have c_t:w3.cell? ⟨w2.heap.size,0,none⟩=some (.slice va E.toks.length vc):=by simp[World.cell?,ht3]
  have HI0:Hid (TmI ⟨s,E.toks,[],.slice va E.toks.length vc,.slice none 0 0,w3⟩ w.heap.size w2.heap.size (w2.heap.size+1+1+1) (w2.heap.size+1+1+1+1) (w2.heap.size+1+1+1+1+1) (.slice none 0 0) [] ((((w3.alloc (.cells #[.string s,.slice va E.toks.length vc,.slice none 0 0,.int .i64 0,.bool false] 46)).alloc (.cells #[ptrV (w2.heap.size+1+1)] 44)).alloc (.cells #[.slice none 0 0] 22)).alloc (.cells #[walkV w.heap.size w2.heap.size (w2.heap.size+1+1+1) (w2.heap.size+1+1+1+1) (w2.heap.size+1+1+1+1+1)] 47))):=Hd (by
   have h:=TmI.start ⟨s,E.toks,[],.slice va E.toks.length vc,.slice none 0 0,w3⟩ w.heap.size w2.heap.size;simp only[SynE.gr,hz3]at h;exact h)
  have HS:Hid (TmS ⟨s,E.toks,[],.slice va E.toks.length vc,.slice none 0 0,w3⟩ w.heap.size w2.heap.size):=Hd ⟨⟨hv▸hR3,HOK.out,by show E.toks.length<=1000000;unfold SynE.N at hN;omega,by show s.size<=1000000;omega⟩,c_s,c_t,by show w.heap.size<w3.heap.size;omega,by show w2.heap.size<w3.heap.size;omega⟩;have HG:Hid (Good ⟨s,E.toks,[],.slice va E.toks.length vc,.slice none 0 0,w3⟩ w3 (λb=>b<w3.heap.size) g k gs ps):=Hd (by rw[hz3];exact Good.via (E':=⟨s,E.toks,[],.slice va E.toks.length vc,.slice none 0 0,w3⟩) HEs.out.symm rfl hG3);have HSM:Hid (ps.length<=1000000/\∀p∈ps,p.1<256/\p.2.2.size<=1000000):=Hd ⟨Z,Good.small (by rw[HEs.out];omega) hG3⟩;have HK3:=Hd hk3;have HF3:=Hd hf3;have HBW3:=Hd hbw3;clear hk3 hf3 hbw3 hR3 hG3 hs3 ht3 hv hcap HOK;go_upto_region 8 with(fail);generalize((((w3.alloc (.cells #[.string s,.slice va E.toks.length vc,.slice none 0 0,.int .i64 0,.bool false] 46)).alloc (.cells #[ptrV (w2.heap.size+1+1)] 44)).alloc (.cells #[.slice none 0 0] 22)).alloc (.cells #[walkV w.heap.size w2.heap.size (w2.heap.size+1+1+1) (w2.heap.size+1+1+1+1) (w2.heap.size+1+1+1+1+1)] 47))=w8 at *;have c_w:=(HI0.out.boxes HS.out).2.2.2.2.1;have HC:=Hd (tm_walk HS.out HG.out HI0.out (by simp;omega));clear c_s c_t HI0;go_wp2_with fail;refine HC.out.mono ?_;intro e w9 h9;unfold TmQ at h9;obtain⟨rfl,ov,h9⟩:=h9;have hb9:Below w3.heap.size w3 w9:=h9.r.below;obtain⟨k0,k1,kz⟩:=(HK3.out.keep hb9).cells;obtain⟨f0,f1,fz⟩:=(HF3.out.keep hb9).cells;rw[List.nil_append]at h9;obtain⟨ova,ovc,hov,-⟩:=zG.slice (l:=ps) (Row.of_owns h9.row);subst hov;obtain⟨-,-,-,b_o,-,-⟩:=h9.boxes HS.out;have H9:=Hd h9;have HB9:=Hd (zD HBW3.out hb9);clear h9 c_w HC HS HG;have HK9:=Hd (HK3.out.keep hb9);clear hb9;go_upto_region 9 with(fail);go_region;go_wp2_with fail;refine HE.out _ _ (.slice ova ps.length ovc) 0 0 ?_ (FK.keep (HK9.out.fill 0 0) (bR _ _).drew) rfl rfl;unfold TermQ;have hne:∀(o:World)(i:Nat),o.ownsRow (w2.heap.size+1+1+1+1+1+1) 33 3 (.slice ova ps.length ovc) ps.length (zP ps)->(o.setCell ⟨w.heap.size+1,i,none⟩ (.int .i64 0)).ownsRow (w2.heap.size+1+1+1+1+1+1) 33 3 (.slice ova ps.length ovc) ps.length (zP ps):=λo i h=>ownsRow_setCell_other h (a:=⟨w.heap.size+1,i,none⟩) (λe=>by have h1:w2.heap.size+1+1+1+1+1+1<=w.heap.size+1:=(h.lt _ e).1;omega) _
  refine⟨((HB9.out.setCell (p:=⟨w.heap.size+1,0,none⟩) (by show w.heap.size<=w.heap.size+1;omega) _).setCell (p:=⟨w.heap.size+1,1,none⟩) (by show w.heap.size<=w.heap.size+1;omega) _).drew,_,ps,0,0,rfl,Row.of_owns (yM (hne _ 1 (hne _ 0 H9.out.row)) (bR _ _).drew),HSM.out,λh=>⟨rfl,rfl,HXP.out h⟩,λh _=>HGX.out h,λ_=>HLF.out⟩
 .have hbA:Below w2.heap.size w2 ((w2.alloc (.cells #[.slice va vn vc] 40)).alloc (.cells #[.int .i64 f,.int .i64 a] 25)):=((bR _ _).alloc (nR _) _).alloc Ob _;have hf3:FK ((w2.alloc (.cells #[.slice va vn vc] 40)).alloc (.cells #[.int .i64 f,.int .i64 a] 25)) (w2.heap.size+1) f a:=by unfold FK;have:=heap_alloc_new (w2.alloc (.cells #[.slice va vn vc] 40)) (.cells #[.int .i64 f,.int .i64 a] 25);simpa using this
  have hk3:=hk2.keep hbA;have hbw3:=zD hbw hbA;clear hk2 hs2 hbw hbA;go_upto_region 3 with(fail);generalize((w2.alloc (.cells #[.slice va vn vc] 40)).alloc (.cells #[.int .i64 f,.int .i64 a] 25))=w3 at *;obtain⟨k0,k1,kz⟩:=hk3.cells;obtain⟨f0,f1,fz⟩:=hf3.cells;have HK:=Hd hk3;have HB:=Hd hbw3;clear hk3 hf3 hbw3;go_region;go_wp2_with fail;refine HE.out _ _ (.slice none 0 0) f a ?_ (FK.keep (HK.out.fill f a) (bR _ _).drew) rfl rfl;unfold TermQ;refine⟨((HB.out.setCell (p:=⟨w.heap.size+1,0,none⟩) (by show w.heap.size<=w.heap.size+1;omega) _).setCell (p:=⟨w.heap.size+1,1,none⟩) (by show w.heap.size<=w.heap.size+1;omega) _).drew,_,[],f,a,rfl,Row.of_owns (World.ownsRow_nil _ 0 33 3),⟨Ob,λp hp=>by cases hp⟩,λh=>absurd h hx,λ_ h=>absurd h hf,λh=>absurd h hf⟩
end Go.Proofs.YtfpjdpdmgceciaaGreatDoor
namespace Go.Proofs.YtfpjdpdmgceciaaGreatDoor
set_option maxRecDepth 100000
set_option maxHeartbeats 32000000
set_option linter.all false
attribute [local irreducible] Calls
open Go.RowKit
theorem zJn(f a:Int)(w:World):Calls Tryz.prog 5 #[.agg #[.int .i64 f,.int .i64 a]] w λe w'=>e=.returned (.bool (f==0&&a==0))/\Below w.heap.size w w':=by
 have HB:∀x y:Int,Hid (Below w.heap.size w (w.alloc (.cells #[.int .i64 x,.int .i64 y] 25))):=λx y=>Hd ((bR w.heap.size w).alloc (nR _) _)
 by_cases hf:f=0
 .by_cases ha:a=0
  .subst hf;subst ha;go_enter Tryz.func5,Tryz.ntmps5;go_wp2;go_ret;exact⟨rfl,(HB _ _).out⟩
  .subst hf;have e:(((0:Int)==0)&&(a==0))=false:=by simp[ha]
   rw[e];go_enter Tryz.func5,Tryz.ntmps5;go_wp2;go_ret;exact⟨rfl,(HB _ _).out⟩
 .have e:((f==0)&&(a==0))=false:=by simp[hf]
  rw[e];go_enter Tryz.func5,Tryz.ntmps5;go_wp2;go_ret;exact⟨rfl,(HB _ _).out⟩
def awT:ByteArray:=⟨#[97,32,43,32,98,32,47,42,32,99,32,42,47]⟩
def awX:ExT:=.bin ⟨#[43]⟩ (.name ⟨#[97]⟩) (.name ⟨#[98]⟩)
def awP:List Prt:=[(37,2,⟨#[43]⟩),(26,0,⟨#[97]⟩),(26,0,⟨#[98]⟩)]
theorem yJm:TX awT awX:=by
 have h1:(nestAll awT).1=[(1,0,1),(8,2,3),(1,4,5),(9,5,5)]:=by decide +kernel
 refine⟨by decide +kernel,rfl,⟨trivial,trivial,3,V,by decide +kernel⟩,⟨by decide +kernel,by decide +kernel,trivial,trivial⟩,V,V,?_,by rw[h1];rfl,⟨(9,5,5),by rw[h1];rfl,rfl⟩⟩;rw[h1];exact⟨⟨_,rfl,rfl,by decide +kernel⟩,⟨_,rfl,rfl,by decide +kernel⟩,⟨_,rfl,rfl,by decide +kernel⟩,trivial⟩
theorem zYq(w:World)(hT:Tabs w)(hM:MaxC w):Calls Tryz.prog 7 #[] w λe w'=>e=.returned (.bool true)/\Below w.heap.size w w':=by
 have CT:Hid (Calls Tryz.prog 4 #[.int .u8 2,.string ⟨#[97,32,43,32,98,32,47,42,32,99,32,42,47]⟩] w (TermQ awT 2 awX w)):=Hd (zDt awT V 2 rfl w hT hM awX);have CN:=Hd (λW=>zJn 0 0 W);clear hT hM;go_enter Tryz.func7,Tryz.ntmps7;go_wp2_with fail;refine CT.out.mono ?_;intro e w1 h1;unfold TermQ at h1;obtain⟨hb1,v,l,f,a,rfl,hr,-,hx,-⟩:=h1;obtain⟨rfl,rfl,rfl⟩:=hx ⟨yJm,rfl⟩;change zG w1 v awP at hr;obtain⟨va,vc,rfl,hvc⟩:=hr.slice;obtain⟨b,off,rfl,x1,x2,x3,hc⟩:=hr.at ((bR _ _).alloc (nR _) (.cells #[.int .i64 0,.int .i64 0] 25)) V;have HB1:=Hd (hb1.alloc hb1.size (.cells #[.int .i64 0,.int .i64 0] 25));have HR:=Hd hr;clear x1 x2 x3 hc hr hb1 CT hx;go_wp2_with fail;refine(CN.out _).mono ?_;rintro e w2 ⟨rfl,hb2⟩;obtain⟨b',off',e',x1,x2,x3,hc⟩:=HR.out.at (zD ((bR _ _).alloc (nR _) (.cells #[.int .i64 0,.int .i64 0] 25)) hb2) V;simp only[Option.some.injEq,Addr.mk.injEq,and_true]at e';obtain⟨rfl,rfl⟩:=e';obtain⟨c0,c1,c2⟩:=hc 0 V;obtain⟨-,-,c8⟩:=hc 2 V;simp only[awP,List.getElem_cons_zero,List.getElem_cons_succ,Nat.zero_mul,Nat.add_zero]at c0 c1 c2 c8;have HX:=Hd (zD HB1.out hb2);have hl3:awP.length=3:=rfl;rw[hl3]at hvc ⊢;clear x1 x2 x3 hc hb2 CN HR hl3;go_wp2_with fail;go_ret;exact⟨rfl,HX.out⟩
end Go.Proofs.YtfpjdpdmgceciaaGreatDoor
