/- Layer 15 in plain Lean: guarded trees of expressions. -/
import Derived.Test.YtfpjdpdmgceciaaGreatDoorAppEqTg
import Derived.Test.YtfpjdpdmgceciaaGreatDoorCheckBTg
import Derived.Test.YtfpjdpdmgceciaaGreatDoorSwapPTg
import Derived.Test.YtfpjdpdmgceciaaGreatDoorPsBTg
import Derived.Test.YtfpjdpdmgceciaaGreatDoorUntilTg
import Derived.Test.YtfpjdpdmgceciaaGreatDoorStillTg
import Derived.Deep.RegionHeld3
namespace Go.Proofs.YtfpjdpdmgceciaaGreatDoor
set_option linter.all false
namespace ExT
def head(x:ExT):Prt:=x.flat.headD (0,0,bE0)
def lvl:ExT->Nat
 |star _=>6
 |un _ _=>6
 |bin w _ _=>lvW w
 |_=>7
def br(m:Nat)(x y:ExT):ExT:=if x.lvl<m then paren y else y
def grd:ExT->ExT
 |none=>none
 |name w=>name w
 |lit w=>lit w
 |paren a=>paren a.grd
 |sel a w=>sel (br 7 a a.grd) w
 |index a r=>index (br 7 a a.grd) r.grd
 |slice a b c d=>slice (br 7 a a.grd) b.grd c.grd d.grd
 |call a r w=>call (br 7 a a.grd) r.grd w
 |star a=>star (br 6 a a.grd)
 |un w a=>un w (br 6 a a.grd)
 |bin w a b=>bin w (br (lvW w) a a.grd) (br (lvW w+1) b b.grd)
 |nil=>nil
 |cons a r=>cons a.grd r.grd
def sizes:ExT->List Nat
 |nil=>[]
 |cons a r=>a.flat.length::r.sizes
 |x=>[x.flat.length]
theorem one_sizes{x:ExT}(h:x.srt=1\/x.srt=2):x.sizes=[x.flat.length]:=by
 cases x<;>first|rfl|(exfalso;simp only[srt]at h;(try split at h)<;>omega)
theorem row_sizes:∀{x:ExT},x.srt=3->x.sizes.length=x.cnt/\x.sizes.sum=x.flat.length
 |nil,_=>⟨rfl,rfl⟩
 |cons a r,h=>by
  simp only[srt]at h;split at h
  .rename_i hh;obtain⟨h1,h2⟩:=row_sizes hh.2;exact⟨by simp[sizes,cnt,h1],by simp[sizes,flat,h2]⟩
  .omega
 |none,h|name _,h|lit _,h=>by simp[srt]at h
 |paren _,h|sel _ _,h|index _ _,h|slice _ _ _ _,h|call _ _ _,h|star _,h|un _ _,h|bin _ _ _,h=>by simp only[srt]at h;split at h<;>omega
theorem rows_x:∀(x:ExT),x.srt≠0->∀{b:List Prt}{us:List Nat},zC b=some us->zC (x.flat++b)=some (x.sizes++us)
 |none,_,b,us,hb|name _,_,b,us,hb|lit _,_,b,us,hb=>by
  simp only[flat,sizes,List.cons_append,List.nil_append];rw[yC hb Ob Ob];simp
 |nil,_,b,us,hb=>hb
 |cons a r,h,b,us,hb=>by
  simp only[srt]at h;split at h;rotate_left;omega;rename_i hh;simp only[flat,List.append_assoc];rw[rows_x a Z (rows_x r Z hb),one_sizes (Or.inl hh.1)];rfl
 |paren a,h,b,us,hb|star a,h,b,us,hb|un _ a,h,b,us,hb=>by
  simp only[srt]at h;split at h;rotate_left;omega;rename_i hh;simp only[flat,List.cons_append];rw[yC (rows_x a Z hb) Ob (by rw[one_sizes (Or.inl hh)];simp;omega),one_sizes (Or.inl hh)];simp[sizes,flat];omega
 |sel a w,h,b,us,hb=>by
  simp only[srt]at h;split at h;rotate_left;omega;rename_i hh;have h2:zC (((26,0,w):Prt)::b)=some (1::us):=by rw[yC hb Ob Ob];simp
  simp only[flat,List.cons_append,List.append_assoc,List.nil_append];rw[yC (rows_x a Z h2) Ob (by rw[one_sizes (Or.inl hh)];simp;omega),one_sizes (Or.inl hh)];simp[sizes,flat];omega
 |index a r,h,b,us,hb=>by
  simp only[srt]at h;split at h;rotate_left;omega;rename_i hh;obtain⟨g1,g2⟩:=row_sizes hh.2.1;have h2:zC (((11,(r.cnt:Int),bE0):Prt)::(r.flat++b))=some ((1+r.flat.length)::us):=by
   rw[yC (rows_x r Z hb) Ob (by simp;omega)];simp only[Int.toNat_natCast,<-g1,List.take_left',List.drop_left',g2]
  simp only[flat,List.cons_append,List.append_assoc];rw[yC (rows_x a Z h2) Ob (by rw[one_sizes (Or.inl hh.1)];simp;omega),one_sizes (Or.inl hh.1)];simp[sizes,flat];omega
 |call a r w,h,b,us,hb=>by
  simp only[srt]at h;split at h;rotate_left;omega;rename_i hh;obtain⟨g1,g2⟩:=row_sizes hh.2.1;have h2:zC (((11,(r.cnt:Int),bE0):Prt)::(r.flat++b))=some ((1+r.flat.length)::us):=by
   rw[yC (rows_x r Z hb) Ob (by simp;omega)];simp only[Int.toNat_natCast,<-g1,List.take_left',List.drop_left',g2]
  simp only[flat,List.cons_append,List.append_assoc];rw[yC (rows_x a Z h2) Ob (by rw[one_sizes (Or.inl hh.1)];simp;omega),one_sizes (Or.inl hh.1)];simp[sizes,flat];omega
 |slice a x y z,h,b,us,hb=>by
  simp only[srt]at h;split at h;rotate_left;omega;rename_i hh;obtain⟨e1,e2,e3,e4,_⟩:=hh;simp only[flat,List.cons_append,List.append_assoc];rw[yC (rows_x a Z (rows_x x Z (rows_x y Z (rows_x z Z hb)))) Ob (by rw[one_sizes (Or.inl e1),one_sizes e2,one_sizes e3,one_sizes e4];simp;omega),one_sizes (Or.inl e1),one_sizes e2,one_sizes e3,one_sizes e4];simp[sizes,flat];omega
 |bin w a c,h,b,us,hb=>by
  simp only[srt]at h;split at h;rotate_left;omega;rename_i hh;simp only[flat,List.cons_append,List.append_assoc];rw[yC (rows_x a Z (rows_x c Z hb)) Ob (by rw[one_sizes (Or.inl hh.1),one_sizes (Or.inl hh.2)];simp;omega),one_sizes (Or.inl hh.1),one_sizes (Or.inl hh.2)];simp[sizes,flat];omega
theorem zZj:∀{x:ExT},x.srt=1\/x.srt=2->yE x.head=x.lvl
 |nil,h=>by simp[srt]at h
 |cons a r,h=>by simp only[srt]at h;split at h<;>omega
 |none,_|name _,_|lit _,_|paren _,_|sel _ _,_|index _ _,_|slice _ _ _ _,_|call _ _ _,_=>by simp[head,flat,yE,lvl]
 |star _,_|un _ _,_|bin _ _ _,_=>by simp[head,flat,yE,lvl]
theorem yIm(p:Prt)(nth:Nat){x:ExT}(hx:x.srt=1\/x.srt=2)(y:ExT):(brk p nth x.head).map (·.1)++y.flat=(br (zR p nth) x y).flat:=by
 unfold brk br;rw[<-zBg,zZj hx];by_cases h:x.lvl<zR p nth
 .rw[iP h,iP (by simpa using h)];rfl
 .rw[iN h,iN (by simpa using h)];rfl
theorem yHd{p:Prt}{nth:Nat}(k:Prt)(h:zR p nth=0):brk p nth k=[]:=by
 unfold brk;rw[<-zBg,h];simp
theorem zGu:∀x:ExT,x.grd.cnt=x.cnt
 |cons a r=>by simp[grd,cnt,zGu r]
 |nil|none|name _|lit _|paren _|sel _ _|index _ _|slice _ _ _ _|call _ _ _|star _|un _ _|bin _ _ _=>rfl
section
variable {l:List Prt} (fr:List Int)
theorem one_ne:∀{x:ExT},x.srt=1\/x.srt=2->∃q,x.flat=x.head::q
 |nil,h=>by simp[srt]at h
 |cons a r,h=>by simp only[srt]at h;split at h<;>omega
 |none,_|name _,_|lit _,_|paren _,_|sel _ _,_|index _ _,_|slice _ _ _ _,_|call _ _ _,_|star _,_|un _ _,_|bin _ _ _,_=>⟨_,rfl⟩
theorem drop_tl{k:Nat}{p:Prt}{q:List Prt}(h:l.drop k=p::q):zO l k=p/\l.drop (k+1)=q:=by
 have h1:l[k]?=some p:=by
  have:=List.getElem?_drop (xs:=l) (i:=k) (j:=0);rw[h]at this;simpa using this.symm
 refine⟨by unfold zO;rw[gD,h1];rfl,?_⟩;rw[<-List.drop_drop,h];rfl
theorem drop_app{k:Nat}{p q:List Prt}(h:l.drop k=p++q):l.drop (k+p.length)=q:=by
 rw[<-List.drop_drop,h,List.drop_left]
theorem end_one{x:ExT}(hx:x.srt=1\/x.srt=2){k:Nat}{post:List Prt}{us:List Nat}(h:l.drop k=x.flat++post)(hp:zC post=some us):zB l k=k+x.flat.length:=by
 unfold zB;rw[h,yY (by have:=rows_x x Z hp;rw[one_sizes hx]at this;exact this)]
theorem fA{p:Prt}{q:List Prt}{k n:Nat}(h:l.drop k=p::q):(gPart l fr (n+1) k).map (·.1)=p::(gKids l fr n p 0 (k+1) (zB l k)).map (·.1):=by
 have:=(drop_tl h).1;rw[gPart,List.map_cons,this];refine congrArg (·::_) ?_;unfold pnAt;exact this
theorem zBb(n:Nat)(p:Prt)(nth k:Nat)(hn:0<n):(gKids l fr n p nth k k).map (·.1)=[]:=by
 cases n with
 |zero=>omega
 |succ n=>rw[gKids,iP rfl];rfl
theorem gL{x:ExT}(hx:x.srt=1\/x.srt=2){k:Nat}{post:List Prt}{us:List Nat}(h:l.drop k=x.flat++post)(hp:zC post=some us){n:Nat}(hg:(gPart l fr n k).map (·.1)=x.grd.flat)(p:Prt)(nth:Nat){stop:Nat}(hs:k≠stop):(gKids l fr (n+1) p nth k stop).map (·.1)=(br (zR p nth) x x.grd).flat++(gKids l fr n p (nth+1) (k+x.flat.length) stop).map (·.1):=by
 obtain⟨q,hq⟩:=one_ne hx;rw[gKids,iN hs,end_one hx h hp,List.map_append,List.map_append,hg,<-yIm p nth hx,List.append_assoc,(drop_tl (h.trans (by rw[hq];rfl))).1]
theorem yEj{r:ExT}(hx:r.srt=3){k:Nat}{post:List Prt}{us:List Nat}(h:l.drop k=(11,(r.cnt:Int),bE0)::(r.flat++post))(hp:zC post=some us){n:Nat}(hg:(gKids l fr n (11,(r.cnt:Int),bE0) 0 (k+1) (k+1+r.flat.length)).map (·.1)=r.grd.flat){p:Prt}{nth:Nat}(hz:zR p nth=0){stop:Nat}(hs:k≠stop):(gKids l fr (n+1+1) p nth k stop).map (·.1)=(11,(r.grd.cnt:Int),bE0)::r.grd.flat++(gKids l fr (n+1) p (nth+1) (k+1+r.flat.length) stop).map (·.1):=by
 obtain⟨g1,g2⟩:=row_sizes hx;have he:zB l k=k+1+r.flat.length:=by
  unfold zB;rw[h,yY (t:=1+r.flat.length) (ts:=us) (by
   rw[yC (rows_x r Z hp) Ob (by simp;omega)];simp only[Int.toNat_natCast,<-g1,List.take_left',List.drop_left',g2])]
  omega
 rw[gKids,iN hs,he,yHd _ hz,List.nil_append,List.map_append,fA fr h,he,hg,zGu]
theorem len_pos{x:ExT}(hx:x.srt=1\/x.srt=2):0<x.flat.length:=by
 obtain⟨q,h⟩:=one_ne hx;rw[h];simp
theorem zGv(x y:ExT):br 0 x y=y:=by unfold br;simp
theorem yEk{w:ByteArray}{k:Nat}{post:List Prt}{us:List Nat}(h:l.drop k=(name w).flat++post)(hp:zC post=some us){n:Nat}(hn:2<=n):(gPart l fr n k).map (·.1)=(name w).grd.flat:=by
 obtain⟨n,rfl⟩:∃m,n=m+1:=⟨n-1,Z⟩;rw[fA fr h,end_one (Or.inl rfl) h hp];simp only[flat,List.length_singleton];rw[zBb fr n _ _ _ Z];rfl
mutual
theorem gp_x(x:ExT)(hx:x.srt=1\/x.srt=2){k:Nat}{post:List Prt}{us:List Nat}(h:l.drop k=x.flat++post)(hp:zC post=some us){n:Nat}(hn:2*x.flat.length<=n):(gPart l fr n k).map (·.1)=x.grd.flat:=by
 have he:=end_one hx h hp;have hpos:=len_pos hx;obtain⟨n,rfl⟩:∃m,n=m+1:=⟨n-1,Z⟩;cases x with
 |nil=>simp[srt]at hx
 |cons a r=>simp only[srt]at hx;split at hx<;>omega
 |none|name _|lit _ =>
  rw[fA fr h,he];simp only[flat,List.length_singleton]at hn ⊢;rw[zBb fr n _ _ _ Z];rfl
 |paren a|star a|un _ a =>
  have ha:a.srt=1:=by simp only[srt]at hx;split at hx<;>omega
  rw[fA fr h,he];have h1:=(drop_tl h).2;simp only[flat,lC]at hn hpos ⊢;obtain⟨n,rfl⟩:∃m,n=m+1:=⟨n-1,Z⟩;have:=len_pos (Or.inl ha);rw[gL fr (Or.inl ha) h1 hp (gp_x a (Or.inl ha) h1 hp Z) _ _ Z,show k+(a.flat.length+1)=k+1+a.flat.length by omega,zBb fr n _ _ _ Z];simp[grd,flat,zR,zGv]
 |sel a w =>
  have ha:a.srt=1:=by simp only[srt]at hx;split at hx<;>omega
  have hb:(name w).srt=1\/(name w).srt=2:=Or.inl rfl;rw[fA fr h,he];have h1:l.drop (k+1)=a.flat++((name w).flat++post):=(drop_tl h).2.trans (by simp[flat]);have h2:=drop_app h1;have p2:=rows_x (name w) (by simp[srt]) hp;rw[show(sel a w).flat.length=a.flat.length+(name w).flat.length+1 by simp[flat]]at hn ⊢;have:=len_pos (Or.inl ha);have:=len_pos hb;obtain⟨n,rfl⟩:∃m,n=m+1+1:=⟨n-2,Z⟩;rw[gL fr (Or.inl ha) h1 p2 (gp_x a (Or.inl ha) h1 p2 Z) _ _ Z,gL fr hb h2 hp (yEk fr h2 hp Z) _ _ Z,show k+(a.flat.length+(name w).flat.length+1)=k+1+a.flat.length+(name w).flat.length by omega,zBb fr n _ _ _ Z];simp[grd,flat,zR,zGv]
 |bin w a b =>
  have hab:a.srt=1/\b.srt=1:=by simp only[srt]at hx;split at hx<;>first|assumption|omega
  obtain⟨ha,hb⟩:=hab;rw[fA fr h,he];have h1:l.drop (k+1)=a.flat++(b.flat++post):=(drop_tl h).2.trans (by simp[flat]);have h2:=drop_app h1;have p2:=rows_x b Z hp;rw[show(bin w a b).flat.length=a.flat.length+b.flat.length+1 by simp[flat]]at hn ⊢;have:=len_pos (Or.inl ha);have:=len_pos (Or.inl hb);obtain⟨n,rfl⟩:∃m,n=m+1+1:=⟨n-2,Z⟩;rw[gL fr (Or.inl ha) h1 p2 (gp_x a (Or.inl ha) h1 p2 Z) _ _ Z,gL fr (Or.inl hb) h2 hp (gp_x b (Or.inl hb) h2 hp Z) _ _ Z,show k+(a.flat.length+b.flat.length+1)=k+1+a.flat.length+b.flat.length by omega,zBb fr n _ _ _ Z];simp[grd,flat,zR,yE]
 |slice a b c d =>
  have hab:a.srt=1/\(b.srt=1\/b.srt=2)/\(c.srt=1\/c.srt=2)/\(d.srt=1\/d.srt=2):=by
   simp only[srt]at hx;split at hx
   .rename_i hh;exact⟨hh.1,hh.2.1,hh.2.2.1,hh.2.2.2.1⟩
   .omega
  obtain⟨ha,hb,hc,hd⟩:=hab;rw[fA fr h,he];have h1:l.drop (k+1)=a.flat++(b.flat++(c.flat++(d.flat++post))):=(drop_tl h).2.trans (by simp[flat]);have h2:=drop_app h1;have h3:=drop_app h2;have h4:=drop_app h3;have p4:=rows_x d Z hp;have p3:=rows_x c Z p4;have p2:=rows_x b Z p3;rw[show(slice a b c d).flat.length=a.flat.length+b.flat.length+c.flat.length+d.flat.length+1 by simp[flat];omega]at hn ⊢;have:=len_pos (Or.inl ha);have:=len_pos hb;have:=len_pos hc;have:=len_pos hd;obtain⟨n,rfl⟩:∃m,n=m+1+1+1+1:=⟨n-4,Z⟩;rw[gL fr (Or.inl ha) h1 p2 (gp_x a (Or.inl ha) h1 p2 Z) _ _ Z,gL fr hb h2 p3 (gp_x b hb h2 p3 Z) _ _ Z,gL fr hc h3 p4 (gp_x c hc h3 p4 Z) _ _ Z,gL fr hd h4 hp (gp_x d hd h4 hp Z) _ _ Z,
   show k+(a.flat.length+b.flat.length+c.flat.length+d.flat.length+1)=k+1+a.flat.length+b.flat.length+c.flat.length+d.flat.length by omega,zBb fr n _ _ _ Z]
  simp[grd,flat,zR,zGv]
 |index a r|call a r _ =>
  have hab:a.srt=1/\r.srt=3:=by
   simp only[srt]at hx;split at hx
   .rename_i hh;exact⟨hh.1,hh.2.1⟩
   .omega
  obtain⟨ha,hr⟩:=hab;rw[fA fr h,he];have h1:l.drop (k+1)=a.flat++((11,(r.cnt:Int),bE0)::(r.flat++post)):=(drop_tl h).2.trans (by simp[flat]);have h2:=drop_app h1;have h3:=(drop_tl h2).2;obtain⟨g1,g2⟩:=row_sizes hr;have p2:zC (((11,(r.cnt:Int),bE0):Prt)::(r.flat++post))=some ((1+r.flat.length)::us):=by
   rw[yC (rows_x r Z hp) Ob (by simp;omega)];simp only[Int.toNat_natCast,<-g1,List.take_left',List.drop_left',g2]
  simp only[show ∀w,(call a r w).flat.length=a.flat.length+r.flat.length+1+1 fromλw=>by simp[flat];omega,show(index a r).flat.length=a.flat.length+r.flat.length+1+1 by simp[flat];omega]at hn ⊢;have:=len_pos (Or.inl ha);obtain⟨n,rfl⟩:∃m,n=m+1+1+1:=⟨n-3,Z⟩;rw[gL fr (Or.inl ha) h1 p2 (gp_x a (Or.inl ha) h1 p2 Z) _ _ Z,yEj fr hr h2 hp (gk_x r hr h3 hp Z rfl 0) (by simp[zR]) Z,
   show k+(a.flat.length+r.flat.length+1+1)=k+1+a.flat.length+1+r.flat.length by omega,zBb fr _ _ _ _ Z]
  simp[grd,flat,zR]
theorem gk_x(x:ExT)(hx:x.srt=3){k:Nat}{post:List Prt}{us:List Nat}(h:l.drop k=x.flat++post)(hp:zC post=some us){n:Nat}(hn:2*x.flat.length+1<=n){p:Prt}(hz:p.1=11)(nth:Nat):(gKids l fr n p nth k (k+x.flat.length)).map (·.1)=x.grd.flat:=by
 cases x with
 |nil=>exact zBb fr n _ _ _ Z
 |cons a r =>
  have hab:a.srt=1/\r.srt=3:=by simp only[srt]at hx;split at hx<;>first|assumption|omega
  obtain⟨ha,hr⟩:=hab;have h1:l.drop k=a.flat++(r.flat++post):=h.trans (by simp[flat]);have h2:=drop_app h1;have p2:=rows_x r Z hp;rw[show(cons a r).flat.length=a.flat.length+r.flat.length by simp[flat]]at hn ⊢;have:=len_pos (Or.inl ha);obtain⟨n,rfl⟩:∃m,n=m+1:=⟨n-1,Z⟩;rw[gL fr (Or.inl ha) h1 p2 (gp_x a (Or.inl ha) h1 p2 Z) _ _ Z,show k+(a.flat.length+r.flat.length)=k+a.flat.length+r.flat.length by omega,gk_x r hr h2 hp Z hz _];simp[grd,flat,zR,hz,zGv]
 |none|name _|lit _=>simp[srt]at hx
 |paren _|sel _ _|index _ _|slice _ _ _ _|call _ _ _|star _|un _ _|bin _ _ _=>simp only[srt]at hx;split at hx<;>omega
end
theorem guard_x{x:ExT}(hx:x.srt=1):(guardZ x.flat fr).map (·.1)=x.grd.flat:=by
 have hr:=rows_x x Z xJ;rw[one_sizes (Or.inl hx),List.append_nil,List.append_nil]at hr;have hw:zT x.flat=true:=xK.2 hr;rw[<-zCx x.flat fr hw];exact gp_x fr x (Or.inl hx) (k:=0) (post:=[]) Ob xJ (nR _)
end
end ExT
def sub(l:List Prt)(i:Nat)(y:List Prt):List Prt:=l.take i++(y++l.drop (i+1))
theorem zZk{a b y:List Prt}{i:Nat}(h:i<a.length):sub (a++b) i y=sub a i y++b:=by
 unfold sub;rw[List.take_append_of_le_length Z,List.drop_append_of_le_length Z];simp
theorem zVy{a b y:List Prt}{i:Nat}(h:a.length<=i):sub (a++b) i y=a++sub b (i-a.length) y:=by
 unfold sub;rw[List.take_append,List.drop_append,List.take_of_length_le h,List.drop_eq_nil_of_le Z,show i+1-a.length=i-a.length+1 by omega];simp
def SelAt(l:List Prt)(i:Nat):Prop:=∃(s:Nat) (a:ExT) (w:ByteArray) (post:List Prt),l.drop s=(29,2,bE0)::(a.flat++(26,0,w)::post)/\a.srt=1/\i=s+1+a.flat.length
theorem SelAt.left{l:List Prt}{i:Nat}(h:SelAt l i)(q:List Prt):SelAt (l++q) i:=by
 obtain⟨s,a,w,post,h1,h2,h3⟩:=h;refine⟨s,a,w,post++q,?_,h2,h3⟩;have:s<=l.length:=by
  by_cases hs:s<=l.length
  .exact hs
  .rw[List.drop_eq_nil_of_le Z]at h1;cases h1
 rw[List.drop_append_of_le_length this,h1];simp
theorem SelAt.right{l:List Prt}{i:Nat}(q:List Prt)(h:SelAt l i):SelAt (q++l) (q.length+i):=by
 obtain⟨s,a,w,post,h1,h2,h3⟩:=h;refine⟨q.length+s,a,w,post,?_,h2,Z⟩;rw[List.drop_append,List.drop_eq_nil_of_le Z,show q.length+s-q.length=s by omega,h1];rfl
def SwR(x:ExT)(i:Nat)(y:List Prt):Prop:=(∃x':ExT,x'.srt=x.srt/\x'.cnt=x.cnt/\x'.flat=sub x.flat i y)\/SelAt x.flat i
namespace ExT
variable {y:ExT} {w:ByteArray}
theorem seg(l A B:List Prt)(a:ExT){i:Nat}(e:l=A++(a.flat++B))(h:l[i]?=some (26,0,w))(h1:A.length<=i)(h2:i<A.length+a.flat.length)(ih:∀i,a.flat[i]?=some (26,0,w)->SwR a i y.flat) :
  (∃a':ExT,a'.srt=a.srt/\a'.cnt=a.cnt/\A++(a'.flat++B)=sub l i y.flat)\/SelAt l i:=by
 subst e;rw[List.getElem?_append_right h1,List.getElem?_append_left Z]at h;rcases ih _ h with⟨a',g1,g2,g3⟩|g
 .exact Or.inl ⟨a',g1,g2,by rw[zVy h1,zZk Z,g3]⟩
 .have:=(g.left B).right A;rw[show A.length+(i-A.length)=i by omega]at this;exact Or.inr this
theorem lt_some{l:List Prt}{i:Nat}{p:Prt}(h:l[i]?=some p):i<l.length:=by
 by_cases hi:i<l.length
 .exact hi
 .rw[List.getElem?_eq_none Z]at h;cases h
theorem sw_x(hy:y.srt=1):∀(x:ExT),x.srt≠0->∀i,x.flat[i]?=some (26,0,w)->SwR x i y.flat
 |none,_,i,h=>by cases i<;>simp[flat]at h
 |lit _,_,i,h=>by cases i<;>simp[flat]at h
 |nil,_,i,h=>by simp[flat]at h
 |name v,_,i,h=>by
  cases i with
  |zero=>exact Or.inl ⟨y,hy,by cases y<;>first|rfl|(exfalso;simp only[srt]at hy;(try split at hy)<;>omega),by simp[sub,flat]⟩
  |succ i=>simp[flat]at h
 |paren a,hx,i,h=>by
  have ha:a.srt=1:=by simp only[srt]at hx;split at hx<;>first|assumption|omega
  have hl:=lt_some h;cases i with
  |zero=>simp[flat]at h
  |succ i =>
   simp only[flat,lC]at hl;rcases seg _ [_] [] a (by simp[flat];rfl) h Ob (by simp;omega) (sw_x hy a Z)with⟨a',g1,g2,g3⟩|g
   .exact Or.inl ⟨paren a',by simp[srt,g1],rfl,by rw[<-g3];simp[flat]⟩
   .exact Or.inr g
 |star a,hx,i,h=>by
  have ha:a.srt=1:=by simp only[srt]at hx;split at hx<;>first|assumption|omega
  have hl:=lt_some h;cases i with
  |zero=>simp[flat]at h
  |succ i =>
   simp only[flat,lC]at hl;rcases seg _ [_] [] a (by simp[flat];rfl) h Ob (by simp;omega) (sw_x hy a Z)with⟨a',g1,g2,g3⟩|g
   .exact Or.inl ⟨star a',by simp[srt,g1],rfl,by rw[<-g3];simp[flat]⟩
   .exact Or.inr g
 |un v a,hx,i,h=>by
  have ha:a.srt=1:=by simp only[srt]at hx;split at hx<;>first|assumption|omega
  have hl:=lt_some h;cases i with
  |zero=>simp[flat]at h
  |succ i =>
   simp only[flat,lC]at hl;rcases seg _ [_] [] a (by simp[flat];rfl) h Ob (by simp;omega) (sw_x hy a Z)with⟨a',g1,g2,g3⟩|g
   .exact Or.inl ⟨un v a',by simp[srt,g1],rfl,by rw[<-g3];simp[flat]⟩
   .exact Or.inr g
 |sel a v,hx,i,h=>by
  have ha:a.srt=1:=by simp only[srt]at hx;split at hx<;>first|assumption|omega
  have hl:=lt_some h;cases i with
  |zero=>simp[flat]at h
  |succ i =>
   simp only[flat,lC,lA]at hl;by_cases hc:i<a.flat.length
   .rcases seg _ [_] [(26,0,v)] a (by simp[flat];rfl) h Ob (by simp;omega) (sw_x hy a Z)with⟨a',g1,g2,g3⟩|g
    .exact Or.inl ⟨sel a' v,by simp[srt,g1],rfl,by rw[<-g3];simp[flat]⟩
    .exact Or.inr g
   .simp at hl;exact Or.inr ⟨0,a,v,[],by simp[flat],ha,Z⟩
 |bin v a b,hx,i,h=>by
  have hab:a.srt=1/\b.srt=1:=by simp only[srt]at hx;split at hx<;>first|assumption|omega
  have hl:=lt_some h;cases i with
  |zero=>simp[flat]at h
  |succ i =>
   simp only[flat,lC,lA]at hl;by_cases hc:i<a.flat.length
   .rcases seg _ [_] b.flat a (by simp[flat];rfl) h Ob (by simp;omega) (sw_x hy a Z)with⟨a',g1,g2,g3⟩|g
    .exact Or.inl ⟨bin v a' b,by simp[srt,g1],rfl,by rw[<-g3];simp[flat]⟩
    .exact Or.inr g
   .rcases seg _ (_::a.flat) [] b (by simp[flat];rfl) h (by simp;omega) (by simp;omega) (sw_x hy b Z)with⟨a',g1,g2,g3⟩|g
    .exact Or.inl ⟨bin v a a',by simp[srt,g1],rfl,by rw[<-g3];simp[flat]⟩
    .exact Or.inr g
 |cons a b,hx,i,h=>by
  have hab:a.srt=1/\b.srt=3:=by simp only[srt]at hx;split at hx<;>first|assumption|omega
  have hl:=lt_some h;simp only[flat,lA]at hl;by_cases hc:i<a.flat.length
  .rcases seg _ [] b.flat a (by simp[flat]) h Ob (by simp;omega) (sw_x hy a Z)with⟨a',g1,g2,g3⟩|g
   .exact Or.inl ⟨cons a' b,by simp[srt,g1],rfl,by rw[<-g3];simp[flat]⟩
   .exact Or.inr g
  .rcases seg _ (a.flat) [] b (by simp[flat]) h Z Z (sw_x hy b Z)with⟨a',g1,g2,g3⟩|g
   .exact Or.inl ⟨cons a a',by simp[srt,g1],by simp[cnt,g2],by rw[<-g3];simp[flat]⟩
   .exact Or.inr g
 |slice a b c d,hx,i,h=>by
  have hab:a.srt=1/\(b.srt=1\/b.srt=2)/\(c.srt=1\/c.srt=2)/\(d.srt=1\/d.srt=2)/\(c.srt=2->d.srt=2):=by simp only[srt]at hx;split at hx<;>first|assumption|omega
  have hl:=lt_some h;cases i with
  |zero=>simp[flat]at h
  |succ i =>
   simp only[flat,lC,lA]at hl;by_cases hc:i<a.flat.length
   .rcases seg _ [_] (b.flat++(c.flat++d.flat)) a (by simp[flat];rfl) h Ob (by simp;omega) (sw_x hy a Z)with⟨a',g1,g2,g3⟩|g
    .exact Or.inl ⟨slice a' b c d,by simp only[srt,g1],rfl,by rw[<-g3];simp[flat]⟩
    .exact Or.inr g
   by_cases hc2:i<a.flat.length+b.flat.length
   .rcases seg _ (_::a.flat) (c.flat++d.flat) b (by simp[flat];rfl) h (by simp;omega) (by simp;omega) (sw_x hy b Z)with⟨a',g1,g2,g3⟩|g
    .exact Or.inl ⟨slice a a' c d,by simp only[srt,g1],rfl,by rw[<-g3];simp[flat]⟩
    .exact Or.inr g
   by_cases hc3:i<a.flat.length+b.flat.length+c.flat.length
   .rcases seg _ (_::(a.flat++b.flat)) d.flat c (by simp[flat];rfl) h (by simp;omega) (by simp;omega) (sw_x hy c Z)with⟨a',g1,g2,g3⟩|g
    .exact Or.inl ⟨slice a b a' d,by simp only[srt,g1],rfl,by rw[<-g3];simp[flat]⟩
    .exact Or.inr g
   .rcases seg _ (_::(a.flat++(b.flat++c.flat))) [] d (by simp[flat];rfl) h (by simp;omega) (by simp;omega) (sw_x hy d Z)with⟨a',g1,g2,g3⟩|g
    .exact Or.inl ⟨slice a b c a',by simp only[srt,g1],rfl,by rw[<-g3];simp[flat]⟩
    .exact Or.inr g
 |index a r,hx,i,h=>by
  have hab:a.srt=1/\r.srt=3/\(1<=r.cnt):=by simp only[srt]at hx;split at hx<;>first|assumption|omega
  have hl:=lt_some h;cases i with
  |zero=>simp[flat]at h
  |succ i =>
   simp only[flat,lC,lA]at hl;by_cases hc:i<a.flat.length
   .rcases seg _ [_] ((11,(r.cnt:Int),bE0)::r.flat) a (by simp[flat];rfl) h Ob (by simp;omega) (sw_x hy a Z)with⟨a',g1,g2,g3⟩|g
    .exact Or.inl ⟨index a' r,by simp only[srt,g1],rfl,by rw[<-g3];simp[flat]⟩
    .exact Or.inr g
   .by_cases hz:i=a.flat.length
    .subst hz;simp[flat]at h
    .rcases seg _ (_::(a.flat++[(11,(r.cnt:Int),bE0)])) [] r (by simp[flat];rfl) h (by simp;omega) (by simp;omega) (sw_x hy r Z)with⟨a',g1,g2,g3⟩|g
     .exact Or.inl ⟨index a a',by simp only[srt,g1,g2],rfl,by rw[<-g3];simp[flat,g2]⟩
     .exact Or.inr g
 |call a r v,hx,i,h=>by
  have hab:a.srt=1/\r.srt=3/\(v≠bE0->1<=r.cnt):=by simp only[srt]at hx;split at hx<;>first|assumption|omega
  have hl:=lt_some h;cases i with
  |zero=>simp[flat]at h
  |succ i =>
   simp only[flat,lC,lA]at hl;by_cases hc:i<a.flat.length
   .rcases seg _ [_] ((11,(r.cnt:Int),bE0)::r.flat) a (by simp[flat];rfl) h Ob (by simp;omega) (sw_x hy a Z)with⟨a',g1,g2,g3⟩|g
    .exact Or.inl ⟨call a' r v,by simp only[srt,g1],rfl,by rw[<-g3];simp[flat]⟩
    .exact Or.inr g
   .by_cases hz:i=a.flat.length
    .subst hz;simp[flat]at h
    .rcases seg _ (_::(a.flat++[(11,(r.cnt:Int),bE0)])) [] r (by simp[flat];rfl) h (by simp;omega) (by simp;omega) (sw_x hy r Z)with⟨a',g1,g2,g3⟩|g
     .exact Or.inl ⟨call a a' v,by simp only[srt,g1,g2],rfl,by rw[<-g3];simp[flat,g2]⟩
     .exact Or.inr g
end ExT
theorem SelAt.up{l:List Prt}{i:Nat}(h:SelAt l i)(hw:zT l=true):∃s:Nat,upN l i=(s:Int)/\s<l.length/\(zO l s).1=29/\(kidsB l s)[1]?=some i:=by
 obtain⟨s,a,w,post,h1,h2,h3⟩:=h;have hr:=zZ hw;have hs:s<l.length:=by
  by_cases hs:s<l.length
  .exact hs
  .rw[List.drop_eq_nil_of_le Z]at h1;cases h1
 obtain⟨e1,e2⟩:=ExT.drop_tl h1;have e3:=ExT.drop_app e2;obtain⟨e4,e5⟩:=ExT.drop_tl e3;obtain⟨us,hp⟩:=kD hr (s+1+a.flat.length+1);rw[e5]at hp;have hn:=ExT.end_one (x:=.name w) (Or.inl rfl) (k:=s+1+a.flat.length) (post:=post) e3 hp;have p2:=ExT.rows_x (.name w) (by simp[ExT.srt]) hp;have ha:=ExT.end_one (x:=a) (Or.inl h2) (k:=s+1) (post:=(26,0,w)::post) e2 p2;have hse:=ExT.end_one (x:=.sel a w) (Or.inl (by simp[ExT.srt,h2])) (k:=s) (post:=post) (by rw[h1];simp[ExT.flat]) hp;have hpos:=ExT.len_pos (Or.inl h2);simp only[ExT.flat,lC,lA,lN]at hn hse;have hil:i<l.length:=by
  by_cases hi:i<l.length
  .exact hi
  .have:=congrArg List.length e3;rw[List.length_drop]at this;simp at this;omega
 refine⟨s,yHa hr hs Z Z (λj hj1 hj2=>?_),hs,by rw[e1],?_⟩
 .have:=zTm hr (i:=s+1) (j:=j) Z Z Z;omega
 .obtain⟨q,k1,k2,k3,k4⟩:=zBw hr hs;have hq:q=2:=by
   have:(zO l s).2.1=2:=by rw[e1]
   unfold zO at this;rw[gD,gE hs,Option.getD_some]at this;omega
  rw[k4 1 Z,jU,jU,ha,h3]
theorem zVz{l y:List Prt}(hw:zT l=true)(hy:zT y=true){i:Nat}(hi:i<l.length)(h0:0<i)(hk:zB l i=i+1):swapZ l (i:Int) 1 y=(sub l i y,0):=by
 have hr:=zZ hw;unfold swapZ;rw[iP hw,xK.1 hy];simp only[Int.toNat_natCast,List.length_singleton];rw[iP ⟨Z,Z,Z,λh=>Z⟩,iN Z];have hp:=zOa hw hi i h0;obtain⟨u,hu⟩:∃u:Nat,upI l i i=(u:Int):=⟨(upI l i i).toNat,Z⟩;obtain⟨g1,g2,_⟩:=zSd _ hu;have ht:toZ l (zB l u) (1:Int).toNat i=some (i+1):=by
  show toZ l (zB l u) 1 i=_;rw[toZ,iN Z,hk,toZ]
 rw[hu,Int.toNat_natCast,ht];simp only[];have add0:∀(l:List Prt)(k:Nat),addK l k (((1:Nat):Int)-1)=l:=by
  intro l;induction l with
  |nil=>intro k;rfl
  |cons p r ih =>
   intro k;cases k with
   |zero=>rw[addK];simp
   |succ k=>rw[addK,ih]
 rw[add0];rfl
namespace ExT
def gok:ExT->Prop
 |none=>True
 |name _=>True
 |lit _=>True
 |paren a=>a.gok
 |sel a _=>7<=a.lvl/\a.gok
 |index a r=>7<=a.lvl/\a.gok/\r.gok
 |slice a b c d=>7<=a.lvl/\a.gok/\b.gok/\c.gok/\d.gok
 |call a r _=>7<=a.lvl/\a.gok/\r.gok
 |star a=>6<=a.lvl/\a.gok
 |un _ a=>6<=a.lvl/\a.gok
 |bin w a b=>lvW w<=a.lvl/\lvW w+1<=b.lvl/\a.gok/\b.gok
 |nil=>True
 |cons a r=>a.gok/\r.gok
theorem yEl:∀x:ExT,x.grd.lvl=x.lvl
 |nil|none|name _|lit _|paren _|sel _ _|index _ _|slice _ _ _ _|call _ _ _|star _|un _ _|bin _ _ _|cons _ _=>rfl
theorem zBc{m:Nat}(hm:m<=7)(x:ExT):m<=(br m x x.grd).lvl:=by
 unfold br;split
 .exact hm
 .rw[yEl];omega
theorem zBd{m:Nat}{x y:ExT}(h:y.gok):(br m x y).gok:=by
 unfold br;split
 .exact h
 .exact h
theorem lvW_le(w:ByteArray):lvW w<=5:=by
 unfold lvW
 repeat' split
 all_goals omega
theorem grd_gok:∀x:ExT,x.grd.gok
 |none|name _|lit _|nil=>trivial
 |paren a=>grd_gok a
 |sel a _=>⟨zBc Z a,zBd (grd_gok a)⟩
 |index a r=>⟨zBc Z a,zBd (grd_gok a),grd_gok r⟩
 |slice a b c d=>⟨zBc Z a,zBd (grd_gok a),grd_gok b,grd_gok c,grd_gok d⟩
 |call a r _=>⟨zBc Z a,zBd (grd_gok a),grd_gok r⟩
 |star a=>⟨zBc Z a,zBd (grd_gok a)⟩
 |un _ a=>⟨zBc Z a,zBd (grd_gok a)⟩
 |bin w a b=>⟨zBc (by have:=lvW_le w;omega) a,zBc (by have:=lvW_le w;omega) b,zBd (grd_gok a),zBd (grd_gok b)⟩
 |cons a r=>⟨grd_gok a,grd_gok r⟩
theorem zBe(m:Nat){x:ExT}(h:x.grd.srt=x.srt):(br m x x.grd).srt=1↔x.srt=1:=by
 unfold br;split
 .simp only[srt,h];split<;>simp_all
 .rw[h]
theorem grd_srt:∀x:ExT,x.grd.srt=x.srt
 |none|name _|lit _|nil=>rfl
 |paren a=>by simp only[grd,srt,grd_srt a]
 |sel a _=>by simp only[grd,srt,zBe 7 (grd_srt a)]
 |index a r=>by simp only[grd,srt,zBe 7 (grd_srt a),grd_srt r,zGu]
 |slice a b c d=>by simp only[grd,srt,zBe 7 (grd_srt a),grd_srt b,grd_srt c,grd_srt d]
 |call a r _=>by simp only[grd,srt,zBe 7 (grd_srt a),grd_srt r,zGu]
 |star a=>by simp only[grd,srt,zBe 6 (grd_srt a)]
 |un _ a=>by simp only[grd,srt,zBe 6 (grd_srt a)]
 |bin w a b=>by simp only[grd,srt,zBe _ (grd_srt a),zBe _ (grd_srt b)]
 |cons a r=>by simp only[grd,srt,grd_srt a,grd_srt r]
def dep:ExT->Nat
 |none=>0
 |name _=>0
 |lit _=>0
 |paren a=>a.dep+1
 |sel a _=>a.dep
 |index a r=>max a.dep (r.dep+1)
 |slice a b c d=>max a.dep (max b.dep (max c.dep d.dep)+1)
 |call a r _=>max a.dep (r.dep+1)
 |star a=>a.dep
 |un _ a=>a.dep
 |bin _ a b=>max a.dep b.dep
 |nil=>0
 |cons a r=>max a.dep r.dep
theorem zBf(m:Nat){x:ExT}(h:x.grd.dep<=x.flat.length-1)(h1:x.srt=1):(br m x x.grd).dep<=x.flat.length:=by
 have:=len_pos (Or.inl h1);unfold br;split
 .simp only[dep];omega
 .omega
theorem grd_dep:∀x:ExT,x.srt≠0->x.grd.dep<=x.flat.length-1
 |none,_|name _,_|lit _,_|nil,_=>by simp[grd,dep]
 |paren a,h=>by
  have ha:a.srt=1:=by simp only[srt]at h;split at h<;>first|assumption|omega
  have:=grd_dep a Z;have:=len_pos (Or.inl ha);simp only[grd,dep,flat,lC];omega
 |sel a _,h=>by
  have ha:a.srt=1:=by simp only[srt]at h;split at h<;>first|assumption|omega
  have:=zBf 7 (grd_dep a Z) ha;simp only[grd,dep,flat,lC,lA];omega
 |star a,h=>by
  have ha:a.srt=1:=by simp only[srt]at h;split at h<;>first|assumption|omega
  have:=zBf 6 (grd_dep a Z) ha;simp only[grd,dep,flat,lC];omega
 |un _ a,h=>by
  have ha:a.srt=1:=by simp only[srt]at h;split at h<;>first|assumption|omega
  have:=zBf 6 (grd_dep a Z) ha;simp only[grd,dep,flat,lC];omega
 |index a r,h=>by
  have ha:a.srt=1/\r.srt=3/\1<=r.cnt:=by simp only[srt]at h;split at h<;>first|assumption|omega
  have:=zBf 7 (grd_dep a Z) ha.1;have:=grd_dep r Z;simp only[grd,dep,flat,lC,lA];omega
 |call a r w,h=>by
  have ha:a.srt=1/\r.srt=3/\(w≠bE0->1<=r.cnt):=by simp only[srt]at h;split at h<;>first|assumption|omega
  have:=zBf 7 (grd_dep a Z) ha.1;have:=grd_dep r Z;simp only[grd,dep,flat,lC,lA];omega
 |slice a b c d,h=>by
  have ha:a.srt=1/\(b.srt=1\/b.srt=2)/\(c.srt=1\/c.srt=2)/\(d.srt=1\/d.srt=2)/\(c.srt=2->d.srt=2):=by simp only[srt]at h;split at h<;>first|assumption|omega
  have:=zBf 7 (grd_dep a Z) ha.1;have:=grd_dep b Z;have:=grd_dep c Z;have:=grd_dep d Z;have:=len_pos ha.2.1;have:=len_pos ha.2.2.1;simp only[grd,dep,flat,lC,lA];omega
 |bin w a b,h=>by
  have ha:a.srt=1/\b.srt=1:=by simp only[srt]at h;split at h<;>first|assumption|omega
  have:=zBf (lvW w) (grd_dep a Z) ha.1;have:=zBf (lvW w+1) (grd_dep b Z) ha.2;simp only[grd,dep,flat,lC,lA];omega
 |cons a r,h=>by
  have ha:a.srt=1/\r.srt=3:=by simp only[srt]at h;split at h<;>first|assumption|omega
  have:=grd_dep a Z;have:=grd_dep r Z;simp only[grd,dep,flat,lA];omega
end ExT
theorem yIn{x y:ExT}(hx:x.srt=1)(hy:y.srt=1){i:Nat}{w:ByteArray}(h0:0<i)(hi:x.flat[i]?=some (26,0,w))(hn:¬SelAt x.flat i):∃z:ExT,z.srt=1/\swapZ x.flat (i:Int) 1 y.flat=(z.flat,0)/\z.flat=sub x.flat i y.flat:=by
 have hw:∀{x:ExT},x.srt=1->zT x.flat=true:=λ{x} hx=>by
  have hr:=ExT.rows_x x Z xJ;rw[ExT.one_sizes (Or.inl hx),List.append_nil,List.append_nil]at hr;exact xK.2 hr
 have hl:=ExT.lt_some hi;rcases ExT.sw_x (w:=w) hy x Z i hi with⟨z,g1,_,g3⟩|g
 .refine⟨z,Z,?_,g3⟩;rw[g3];refine zVz (hw hx) (hw hy) hl h0 (zDk (zZ (hw hx)) hl ?_);rw[gE hl]at hi;rw[Option.some.inj hi]
 .exact absurd g hn
inductive XTk where
 |nm (w:ByteArray)
 |lt (w:ByteArray)
 |sg (w:List UInt8)
namespace ExT
def isNone:ExT->Bool
 |none=>true
 |_=>false
def isNil:ExT->Bool
 |nil=>true
 |_=>false
def toks:ExT->List XTk
 |none=>[]
 |name w=>[.nm w]
 |lit w=>[.lt w]
 |paren a=>.sg [40]::(a.toks++[.sg [41]])
 |sel a w=>a.toks++[.sg [46],.nm w]
 |index a r=>a.toks++.sg [91]::(r.toks++[.sg [93]])
 |slice a b c d=>a.toks++.sg [91]::(b.toks++.sg [58]::(c.toks++((if d.isNone then[]else .sg [58]::d.toks)++[.sg [93]])))
 |call a r w=>a.toks++.sg [40]::(r.toks++((if w.size=0 then[]else[.sg w.toList])++[.sg [41]]))
 |star a=>.sg [42]::a.toks
 |un w a=>.sg w.toList::a.toks
 |bin w a b=>a.toks++.sg w.toList::b.toks
 |nil=>[]
 |cons a r=>a.toks++(if r.isNil then[]else .sg [44]::r.toks)
def unW:List (List UInt8):=[[43],[45],[33],[94],[38],[60,45]]
def wok:ExT->Prop
 |none=>True
 |name _=>True
 |lit _=>True
 |paren a=>a.wok
 |sel a _=>a.wok
 |index a r=>a.wok/\r.wok
 |slice a b c d=>a.wok/\b.wok/\c.wok/\d.wok
 |call a r w=>a.wok/\r.wok/\(w=bE0\/w.toList=[46,46,46])
 |star a=>a.wok
 |un w a=>a.wok/\w.toList∈unW
 |bin w a b=>a.wok/\b.wok/\(∃i,i<5/\w.toList∈[wL1,wL2,wL3,wL4,wL5].getD i [])
 |nil=>True
 |cons a r=>a.wok/\r.wok
end ExT
namespace ExT
def isLit:ExT->Bool
 |lit _=>true
 |_=>false
def isUn:ExT->Bool
 |un _ _=>true
 |_=>false
def txt:ExT->List UInt8
 |none=>[]
 |name w=>w.data.toList
 |lit w=>w.data.toList
 |paren a=>40::(a.txt++[41])
 |sel a w=>(a.txt++if a.isLit then[32]else[])++(46::w.data.toList)
 |index a r=>a.txt++(91::(r.txt++[93]))
 |slice a b c d=>a.txt++(91::(b.txt++(58::(c.txt++((if d.txt=[]then[]else 58::d.txt)++[93])))))
 |call a r w=>a.txt++(40::(r.txt++((if w.size=0 then[]else 32::w.data.toList)++[41])))
 |star a=>42::a.txt
 |un w a=>w.data.toList++((if a.isUn then[32]else[])++a.txt)
 |bin w a b=>a.txt++(32::(w.data.toList++(32::b.txt)))
 |nil=>[]
 |cons a r=>a.txt++(if r.isNil then[]else 44::32::r.txt)
def rowT:ExT->List (List UInt8)
 |cons a r=>a.txt::r.rowT
 |_=>[]
end ExT
theorem zIh{a r:ExT}(h:(ExT.cons a r).srt=1\/(ExT.cons a r).srt=2):False:=by
 simp only[ExT.srt]at h;split at h<;>omega
def TokAt(s:ByteArray)(T:List (Int×Nat×Nat))(j:Nat):XTk->Prop
 | .nm w=>∃t,T[j]?=some t/\t.1=1/\s.extract t.2.1 t.2.2=w
 | .lt w=>∃t,T[j]?=some t/\3<=t.1/\t.1<=7/\s.extract t.2.1 t.2.2=w
 | .sg w=>∃t,T[j]?=some t/\t.1=8/\(s.extract t.2.1 t.2.2).toList=w
def SpellT(s:ByteArray)(T:List (Int×Nat×Nat)):Nat->List XTk->Prop
 |_,[]=>True
 |j,t::r=>TokAt s T j t/\SpellT s T (j+1) r
abbrev TokIs(E:SynE)(j:Nat)(t:XTk):Prop:=TokAt E.s E.toks j t
abbrev Spell(E:SynE)(j:Nat)(l:List XTk):Prop:=SpellT E.s E.toks j l
structure TXL(s:ByteArray)(T:List (Int×Nat×Nat))(x:ExT):Prop where
 r:x.srt=1
 w:x.wok
 g:x.gok
 l:x.flat.length<=10000
 lt:x.flat.length<=8*x.toks.length+10
 sp:SpellT s T 0 x.toks
 n:T.length=x.toks.length+1
 e:∃t,T[x.toks.length]?=some t/\t.1=9
theorem Spell.app{E:SynE}:∀{a:List XTk}{j:Nat}{b:List XTk},Spell E j (a++b)->Spell E j a/\Spell E (j+a.length) b
 |[],j,b,h=>⟨trivial,h⟩
 |t::a,j,b,h=>by
  obtain⟨h1,h2⟩:=Spell.app h.2;exact⟨⟨h.1,h1⟩,by rw[lC,show j+(a.length+1)=j+1+a.length by omega];exact h2⟩
section
variable {E:SynE} {j:Nat} {w:ByteArray}
theorem zNe{t:Int×Nat×Nat}(h:E.toks[j]?=some t):¬((j:Int)<0\/(E.N:Int)<=(j:Int)):=by
 have:j<E.toks.length:=by
  by_cases hj:j<E.toks.length
  .exact hj
  .rw[List.getElem?_eq_none Z]at h;cases h
 unfold SynE.N;omega
theorem TokAt.nm(h:TokIs E j (.nm w)):litK E (j:Int)=false/\(wordZ E (j:Int)).toList=[]/\namedB E (j:Int)=true/\(∀k,k≠45->textZ E k (j:Int)=w)/\j<E.N:=by
 obtain⟨t,h1,h2,h3⟩:=h;have hl:=zNe h1;have hk:kindZ E (j:Int)=1:=by unfold kindZ;rw[iN hl,Int.toNat_natCast,h1];exact h2
 refine⟨by unfold litK;rw[hk];rfl,?_,by unfold namedB;rw[hk];rfl,λk hk=>?_,Z⟩
 .unfold wordZ;rw[iN hl,Int.toNat_natCast,h1];simp only[];rw[iN Z,iN Z,ByteArray.toList_eq];rfl
 .unfold textZ;simp only[Int.toNat_natCast,h1];rw[iN hk,iN Z];exact h3
theorem TokAt.lt(h:TokIs E j (.lt w)):litK E (j:Int)=true/\(wordZ E (j:Int)).toList=[]/\(∀k,k≠45->textZ E k (j:Int)=w)/\j<E.N:=by
 obtain⟨t,h1,h2,h2',h3⟩:=h;have hl:=zNe h1;have hk:kindZ E (j:Int)=t.1:=by unfold kindZ;rw[iN hl,Int.toNat_natCast,h1]
 refine⟨by unfold litK;rw[hk];simp;omega,?_,λk hk=>?_,Z⟩
 .unfold wordZ;rw[iN hl,Int.toNat_natCast,h1];simp only[];rw[iN Z,iN Z,ByteArray.toList_eq];rfl
 .unfold textZ;simp only[Int.toNat_natCast,h1];rw[iN hk,iN Z];exact h3
theorem TokAt.sg{w:List UInt8}(h:TokIs E j (.sg w)):litK E (j:Int)=false/\(wordZ E (j:Int)).toList=w/\(∀k,k≠45->(textZ E k (j:Int)).toList=w)/\j<E.N:=by
 obtain⟨t,h1,h2,h3⟩:=h;have hl:=zNe h1;have hk:kindZ E (j:Int)=8:=by unfold kindZ;rw[iN hl,Int.toNat_natCast,h1];exact h2
 refine⟨by unfold litK;rw[hk];rfl,?_,λk hk=>?_,Z⟩
 .unfold wordZ;rw[iN hl,Int.toNat_natCast,h1];simp only[];rw[iN Z,iP Z];exact h3
 .unfold textZ;simp only[Int.toNat_natCast,h1];rw[iN hk,iN Z];exact h3
end
open Go
open Go.RowKit
structure KpM(B g:Nat)(W W':World):Prop where
 os:W'.os=W.os
 tape:W'.tape=W.tape
 output:W'.output=W.output
 size:W.heap.size<=W'.heap.size
 low:∀k,k<B->k≠g->W'.heap[k]?=W.heap[k]?
theorem KpM.refl(B g:Nat)(W:World):KpM B g W W:=⟨rfl,rfl,rfl,nR _,λ_ _ _=>rfl⟩
theorem KpM.trans{B g:Nat}{a b c:World}(h:KpM B g a b)(k:KpM B g b c):KpM B g a c :=
 ⟨k.os.trans h.os,k.tape.trans h.tape,k.output.trans h.output,Nat.le_trans h.size k.size,λi h1 h2=>(k.low i h1 h2).trans (h.low i h1 h2)⟩
theorem KpM.of_below{B g:Nat}{W W':World}(hB:B<=W.heap.size)(h:Below W.heap.size W W'):KpM B g W W':=⟨h.os,h.tape,h.output,h.size,λk hk _=>h.block k Z⟩
theorem KpM.alloc{B g:Nat}{a W:World}(h:KpM B g a W)(hB:B<=W.heap.size)(o:Obj):KpM B g a (W.alloc o):=h.trans (KpM.of_below hB ((bR _ _).alloc (nR _) o))
theorem KpM.grown{B g:Nat}{a W W':World}(h:KpM B g a W){e:TypeId}{size n:Nat}{v:Value}{xs:List Value}(ho:W.ownsRow B e size v n xs)(hB:B<=W.heap.size)(hg:W.grownBy W' v.ownBlock):KpM B g a W' :=
 ⟨hg.os.trans h.os,hg.tape.trans h.tape,hg.output.trans h.output,Nat.le_trans h.size hg.size,λk h1 h2=>(hg.block k Z (λe=>by have:=(ho.lt k e.symm).1;omega)).trans (h.low k h1 h2)⟩
theorem KpM.below{B g:Nat}{w W W':World}(h:KpM B g W W')(hw:Below w.heap.size w W)(hB:w.heap.size<=B)(hg:w.heap.size<=g):Below w.heap.size w W' :=
 ⟨h.os.trans hw.os,h.tape.trans hw.tape,h.output.trans hw.output,Nat.le_trans hw.size h.size,λk hk=>(h.low k Z Z).trans (hw.block k hk)⟩
end Go.Proofs.YtfpjdpdmgceciaaGreatDoor
namespace Go.Proofs.YtfpjdpdmgceciaaGreatDoor
set_option linter.all false
open Go.RowKit
theorem fN{w w':World}{B B2:Nat}{e e2:TypeId}{size n size2 n2:Nat}{v v2:Value}{xs xs2:List Value}(h:w.ownsRow B e size v n xs)(hg:w.grownBy w' v.ownBlock)(h2:w.ownsRow B2 e2 size2 v2 n2 xs2)(ht:e2≠e):w'.ownsRow B2 e2 size2 v2 n2 xs2:=by
 obtain⟨g1,g2⟩:=h2;refine⟨g1,?_⟩;rcases g2 with g2|⟨k,cap,cur,hv,hk,hh,r⟩
 .exact Or.inl g2
 .refine Or.inr ⟨k,cap,cur,hv,hk,?_,r⟩;rw[hg.block k (yH hh) ?_,hh];intro e1;rcases h.2 with⟨rfl,_⟩|⟨k1,cap1,cur1,rfl,_,hh1,_⟩
  .simp[Value.ownBlock]at e1
  .simp[Value.ownBlock]at e1;subst e1;rw[hh]at hh1;cases hh1
   exact ht rfl
theorem zKn(a b:List Int):intsV (a++b)=intsV a++intsV b:=by unfold intsV;rw[List.map_append]
open Go
structure CpE where
 l:List Prt
 fr:List Int
 g:Nat
 B:Nat
 T:TypeId
 vl:Value
 vf:Value
def cpB(E:CpE)(ov nv:Value)(i:Nat)(W:World):Prop:=W.heap[E.g]?=some (.cells #[E.vl,E.vf,ov,nv,.int .i64 (i:Int)] E.T (0,0))
theorem cpB.cells{E:CpE}{ov nv:Value}{i:Nat}{W:World}(h:cpB E ov nv i W):W.cell? ⟨E.g,0,none⟩=some E.vl/\W.cell? ⟨E.g,1,none⟩=some E.vf/\W.cell? ⟨E.g,2,none⟩=some ov/\W.cell? ⟨E.g,3,none⟩=some nv/\W.cell? ⟨E.g,4,none⟩=some (.int .i64 (i:Int))/\∀j,W.frozen? ⟨E.g,j,none⟩=false:=by
 unfold cpB at h;simp[World.cell?,World.frozen?,h]
theorem cpB.set{E:CpE}{ov nv:Value}{i:Nat}{W:World}(h:cpB E ov nv i W):(∀v,cpB E v nv i (W.setCell ⟨E.g,2,none⟩ v))/\(∀v,cpB E ov v i (W.setCell ⟨E.g,3,none⟩ v))/\(∀j:Nat,cpB E ov nv j (W.setCell ⟨E.g,4,none⟩ (.int .i64 (j:Int)))):=by
 unfold cpB at *;refine⟨λv=>?_,λv=>?_,λj=>?_⟩
 .exact heap_setCell_same W E.g 2 _ _ v h
 .exact heap_setCell_same W E.g 3 _ _ v h
 .exact heap_setCell_same W E.g 4 _ _ (.int .i64 (j:Int)) h
structure CpIn(w0:World)(E:CpE)(out:List Prt)(ns:List Int)(i:Nat)(ov nv:Value)(W:World):Prop where
 b:Below w0.heap.size w0 W
 s:cpB E ov nv i W
 o:W.ownsRow E.B 33 3 ov out.length (zP out)
 f:W.ownsRow E.B 3 1 nv ns.length (intsV ns)
 g0:w0.heap.size<=E.g
 gB:E.g<E.B
 B:E.B<=W.heap.size
theorem CpIn.below{w0 W W':World}{E:CpE}{out:List Prt}{ns:List Int}{i:Nat}{ov nv:Value}(h:CpIn w0 E out ns i ov nv W)(hb:Below W.heap.size W W'):CpIn w0 E out ns i ov nv W' :=
 ⟨zD h.b hb,keeps hb h.s,yM h.o hb,yM h.f hb,h.g0,h.gB,by have:=h.B;have:=hb.size;omega⟩
theorem ownsG{W:World}{B g:Nat}{e:TypeId}{size n:Nat}{v:Value}{xs:List Value}(h:W.ownsRow B e size v n xs)(hg:g<B)(j:Nat)(u:Value):(W.setCell ⟨g,j,none⟩ u).ownsRow B e size v n xs :=
 ownsRow_setCell_other h (a:=⟨g,j,none⟩) (λe=>by have:=(h.lt g e).1;omega) u
theorem CpIn.step{w0 W:World}{E:CpE}{out:List Prt}{ns:List Int}{i:Nat}{ov nv:Value}(h:CpIn w0 E out ns i ov nv W)(j:Nat):CpIn w0 E out ns j ov nv (W.setCell ⟨E.g,4,none⟩ (.int .i64 (j:Int))) :=
 ⟨h.b.setCell (p:=⟨E.g,4,none⟩) h.g0 _,h.s.set.2.2 j,ownsG h.o h.gB _ _,ownsG h.f h.gB _ _,h.g0,h.gB,by simpa using h.B⟩
structure KpC(g:Nat)(ov nv ov' nv':Value)(W W':World):Prop where
 os:W'.os=W.os
 tape:W'.tape=W.tape
 output:W'.output=W.output
 size:W.heap.size<=W'.heap.size
 low:∀k,k<W.heap.size->k≠g->ov.ownBlock≠some k->nv.ownBlock≠some k->W'.heap[k]?=W.heap[k]?
 no:∀k,ov'.ownBlock=some k->ov.ownBlock=some k\/W.heap.size<=k
 nn:∀k,nv'.ownBlock=some k->nv.ownBlock=some k\/W.heap.size<=k
theorem KpC.refl(g:Nat)(ov nv:Value)(W:World):KpC g ov nv ov nv W W:=⟨rfl,rfl,rfl,nR _,λ_ _ _ _ _=>rfl,λ_ h=>Or.inl h,λ_ h=>Or.inl h⟩
theorem KpC.trans{g:Nat}{o1 n1 o2 n2 o3 n3:Value}{a b c:World}(h:KpC g o1 n1 o2 n2 a b)(k:KpC g o2 n2 o3 n3 b c):KpC g o1 n1 o3 n3 a c :=
 ⟨k.os.trans h.os,k.tape.trans h.tape,k.output.trans h.output,Nat.le_trans h.size k.size,λi h1 h2 h3 h4=>(k.low i (Nat.lt_of_lt_of_le h1 h.size) h2 (λe=>by
   rcases h.no i e with e|e
   .exact h3 e
   .omega) (λe=>by
   rcases h.nn i e with e|e
   .exact h4 e
   .omega)).trans (h.low i h1 h2 h3 h4),λi e=>by
   rcases k.no i e with e|e
   .exact h.no i e
   .exact Or.inr (Nat.le_trans h.size e),λi e=>by
   rcases k.nn i e with e|e
   .exact h.nn i e
   .exact Or.inr (Nat.le_trans h.size e)⟩
theorem KpC.of_below{g:Nat}{ov nv:Value}{W W':World}(h:Below W.heap.size W W'):KpC g ov nv ov nv W W':=⟨h.os,h.tape,h.output,h.size,λk hk _ _ _=>h.block k hk,λ_ e=>Or.inl e,λ_ e=>Or.inl e⟩
theorem KpC.setG{g:Nat}{o1 n1 o2 n2:Value}{a W:World}(h:KpC g o1 n1 o2 n2 a W)(j:Nat)(v:Value):KpC g o1 n1 o2 n2 a (W.setCell ⟨g,j,none⟩ v) :=
 ⟨h.os,h.tape,h.output,by have:=h.size;simpa using this,λk h1 h2 h3 h4=>by rw[heap_setCell_other _ _ _ _ h2];exact h.low k h1 h2 h3 h4,h.no,h.nn⟩
theorem CpIn.part{w0 W:World}{E:CpE}{out:List Prt}{ns:List Int}{i:Nat}{ov nv:Value}(h:CpIn w0 E out ns i ov nv W)(p:Prt)(hn:out.length<=1000000000) :
  ∃v1 w1,(Builtin.append_ #[22,22] 22 #[ov,.slice (some ⟨W.heap.size,0,none⟩) 1 1]).run Tryz.prog (W.alloc (.cells #[.int .u8 (p.1:Int),.int .i64 p.2.1,.string p.2.2] 33))=.ok v1 w1/\cpB E ov nv i w1/\CpIn w0 E (out++[p]) ns i v1 nv (w1.setCell ⟨E.g,2,none⟩ v1)/\KpC E.g ov nv v1 nv W (w1.setCell ⟨E.g,2,none⟩ v1):=by
 have hBs:=h.B;obtain⟨v1,w1,r1,o1,g1,p1⟩:=vV (P:=Tryz.prog) W #[.int .u8 (p.1:Int),.int .i64 p.2.1,.string p.2.2] 33 22 22 33 Tryz.underlying22 E.B kZ rfl V ov out.length _ h.o 1 1 rfl (nR _) (by intro u hu;simp at hu;rcases hu with rfl|rfl|rfl<;>rfl) Z Z hBs;have oa:=h.o.alloc (.cells #[.int .u8 (p.1:Int),.int .i64 p.2.1,.string p.2.2] 33);have hBa:E.B<=(W.alloc (.cells #[.int .u8 (p.1:Int),.int .i64 p.2.1,.string p.2.2] 33)).heap.size:=by simp;omega
 have k1:=((KpM.refl E.B E.g W).alloc hBs (.cells #[.int .u8 (p.1:Int),.int .i64 p.2.1,.string p.2.2] 33)).grown oa hBa g1;have f1:=fN oa g1 (h.f.alloc (.cells #[.int .u8 (p.1:Int),.int .i64 p.2.1,.string p.2.2] 33)) V;have hgl:=yH h.s;have s1:cpB E ov nv i w1:=by
  unfold cpB;rw[g1.block E.g (by simp;omega) (λe=>by have:=(oa.lt E.g e.symm).1;have:=h.gB;omega),Below.heap_alloc _ _ _ hgl];exact h.s
 have hb1:Below w0.heap.size w0 w1:=k1.below h.b (by have:=h.g0;have:=h.gB;omega) h.g0;have kc:KpC E.g ov nv v1 nv W w1:=⟨g1.os,g1.tape,g1.output,k1.size,λk h1 h2 h3 _=>by rw[g1.block k (by simp;omega) (λe=>h3 e.symm),Below.heap_alloc _ _ _ h1],λk e=>by
  rcases p1 with q|q
  .exact Or.inl (q▸e)
  .rw[q]at e;have:=Option.some.inj e;exact Or.inr Z,λ_ e=>Or.inl e⟩
 refine⟨v1,w1,r1,s1,⟨hb1.setCell (p:=⟨E.g,2,none⟩) h.g0 _,s1.set.1 v1,?_,ownsG f1 h.gB _ _,h.g0,h.gB,by have:=k1.size;simp;omega⟩,kc.setG _ _⟩;rw[lA,xR];exact ownsG o1 h.gB _ _
theorem CpIn.num{w0 W:World}{E:CpE}{out:List Prt}{ns:List Int}{i:Nat}{ov nv:Value}(h:CpIn w0 E out ns i ov nv W)(z:Int)(hn:ns.length<=1000000000) :
  ∃v1 w1,(Builtin.append_ #[31,31] 31 #[nv,.slice (some ⟨W.heap.size,0,none⟩) 1 1]).run Tryz.prog (W.alloc (.cells #[.int .i64 z] 3))=.ok v1 w1/\cpB E ov nv i w1/\CpIn w0 E out (ns++[z]) i ov v1 (w1.setCell ⟨E.g,3,none⟩ v1)/\KpC E.g ov nv ov v1 W (w1.setCell ⟨E.g,3,none⟩ v1):=by
 have hBs:=h.B;obtain⟨v1,w1,r1,f1,g1,p1⟩:=vV (P:=Tryz.prog) W #[.int .i64 z] 3 31 31 3 Tryz.underlying31 E.B gI rfl V nv ns.length _ h.f 1 1 rfl (nR _) (by intro u hu;simp at hu;subst hu;rfl) Z Z hBs;have fa:=h.f.alloc (.cells #[.int .i64 z] 3);have hBa:E.B<=(W.alloc (.cells #[.int .i64 z] 3)).heap.size:=by simp;omega
 have k1:=((KpM.refl E.B E.g W).alloc hBs (.cells #[.int .i64 z] 3)).grown fa hBa g1;have o1:=fN fa g1 (h.o.alloc (.cells #[.int .i64 z] 3)) V;have hgl:=yH h.s;have s1:cpB E ov nv i w1:=by
  unfold cpB;rw[g1.block E.g (by simp;omega) (λe=>by have:=(fa.lt E.g e.symm).1;have:=h.gB;omega),Below.heap_alloc _ _ _ hgl];exact h.s
 have hb1:Below w0.heap.size w0 w1:=k1.below h.b (by have:=h.g0;have:=h.gB;omega) h.g0;have kc:KpC E.g ov nv ov v1 W w1:=⟨g1.os,g1.tape,g1.output,k1.size,λk h1 h2 _ h3=>by rw[g1.block k (by simp;omega) (λe=>h3 e.symm),Below.heap_alloc _ _ _ h1],λ_ e=>Or.inl e,λk e=>by
  rcases p1 with q|q
  .exact Or.inl (q▸e)
  .rw[q]at e;have:=Option.some.inj e;exact Or.inr Z⟩
 refine⟨v1,w1,r1,s1,⟨hb1.setCell (p:=⟨E.g,3,none⟩) h.g0 _,s1.set.2.1 v1,ownsG o1 h.gB _ _,?_,h.g0,h.gB,by have:=k1.size;simp;omega⟩,kc.setG _ _⟩;rw[lA,zKn];exact ownsG f1 h.gB _ _
end Go.Proofs.YtfpjdpdmgceciaaGreatDoor
namespace Go.Proofs.YtfpjdpdmgceciaaGreatDoor
set_option maxRecDepth 100000
set_option maxHeartbeats 32000000
set_option linter.all false
attribute [local irreducible] Calls
attribute [local irreducible] wpStill
open Go.RowKit
structure CpF(w0:World)(E:CpE):Prop where
 L:zG w0 E.vl E.l
 F:zK w0 E.vf .i64 E.fr
 w:zT E.l=true
 n:E.fr.length=E.l.length
 s:SmallL E.l
 M:MaxC w0
@[irreducible] def cpPost(w0:World)(E:CpE)(out:List Prt)(ns:List Int)(ov nv:Value)(M:List PN)(j:Nat)(W:World)(e:Ending)(w':World):Prop :=
 ∃ov' nv' v,e=.returned v/\CpIn w0 E (out++M.map (·.1)) (ns++M.map (·.2)) j ov' nv' w'/\KpC E.g ov nv ov' nv' W w'
theorem vR{P:Program}{w w':World}{o:Oper}{a:Act}{K:Act->World->Prop}{Q:Exit->Act->World->Prop}(s x:Operand)(t u:TypeId){v src v':Value}{ty:TypeId}(hrun:(Builtin.append_ #[t,u] ty #[v,src]).run P w=.ok v' w')(ho:o.op=.call { callee:=.builtin .append,args:=#[s,x],argTypes:=#[t,u] })(hty:o.type=ty)(hs:a.eval s=v)(hx:a.eval x=src)(h:K (a.put o.dst v') w'):Oper.wp P o a w K Q:=by
 subst hty;unfold Oper.wp;simp[execOp,ho,resolve,invoke,builtin,hs,hx,hrun,Result.andThen];exact h
abbrev NormalInC(R:Act->World->Prop):Exit->Act->World->Prop:=λe a w=>match e with
 | .normal=>R a w
 |_=>False
theorem zAz{P:Program}{id:Nat}{ops:Array Oper}{a:Act}{w:World}{Q:Exit->Act->World->Prop}(F:Act->Act->World->Prop)(h1:(Code.region id ops true).wp P (NormalInC (F a)) a w)(h2:∀a' w',F a a' w'->Q .normal a' w'):(Code.region id ops true).wp P Q a w :=
 Code.wp_mono (λe a' w' h=>by cases e<;>first|exact h2 _ _ h|cases h) h1
theorem pk3{W:World}{g:Nat}{k:Nat}{n:Int}{s:ByteArray}(h:PK W g (k,n,s)):W.cell? ⟨g,0,none⟩=some (.int .u8 (k:Int))/\W.cell? ⟨g,1,none⟩=some (.int .i64 n)/\W.cell? ⟨g,2,none⟩=some (.string s):=⟨h.c0,h.c1,h.c2⟩
theorem zBa{W w1:World}{g c b:Nat}{p:Prt}{ov nv ov' nv' u:Value}(h:PK W b p)(hk:KpC g ov nv ov' nv' W (w1.setCell ⟨g,c,none⟩ u))(h1:b≠g)(h2:ov.ownBlock≠some b)(h3:nv.ownBlock≠some b):PK w1 b p/\PK (w1.setCell ⟨g,c,none⟩ u) b p:=by
 have e:=hk.low b (lt_of_block h) h1 h2 h3;have e2:PK (w1.setCell ⟨g,c,none⟩ u) b p:=by unfold PK at *;rw[e];exact h
 refine⟨?_,e2⟩;unfold PK at *;rw[heap_setCell_other _ _ _ _ h1]at e2;exact e2
theorem zRx{W w1:World}{g b:Nat}{p:Prt}{ov nv ov' nv':Value}(h:PK W b p)(hk:KpC g ov nv ov' nv' W w1)(h2:ov.ownBlock≠some b):ov'.ownBlock≠some b:=λe=>by
 have hl:=lt_of_block h;rcases hk.no b e with e|e
 .exact h2 e
 .omega
def PutC(w0:World)(E:CpE)(n:Nat):Prop:=∀(W:World)(out:List Prt)(ns:List Int)(i:Nat)(ov nv:Value),CpIn w0 E out ns i ov nv W->i<E.l.length->2*(zB E.l i-i)<=n->out.length+(gPart E.l E.fr n i).length<=1000000000->ns.length=out.length->
 Calls Tryz.prog 29 #[.pointer (some ⟨E.g,0,none⟩)] W (cpPost w0 E out ns ov nv (gPart E.l E.fr n i) (zB E.l i) W)
def EachC(w0:World)(E:CpE)(n:Nat):Prop:=∀(W:World)(out:List Prt)(ns:List Int)(i:Nat)(ov nv:Value),CpIn w0 E out ns (i+1) ov nv W->i<E.l.length->2*(zB E.l i-(i+1))+1<=n->out.length+(gKids E.l E.fr n (zO E.l i) 0 (i+1) (zB E.l i)).length<=1000000000->ns.length=out.length->
 Calls Tryz.prog 46 #[.pointer (some ⟨E.g,0,none⟩),partA (zO E.l i),.func (.func 29) #[.pointer (some ⟨E.g,0,none⟩)] #[]] W (cpPost w0 E out ns ov nv (gKids E.l E.fr n (zO E.l i) 0 (i+1) (zB E.l i)) (zB E.l i) W)
theorem yHc(w0:World)(E:CpE)(F:CpF w0 E)(n:Nat)(ihE:EachC w0 E n)(W:World)(out:List Prt)(ns:List Int)(i:Nat)(ov nv:Value)(hi:CpIn w0 E out ns i ov nv W)(hil:i<E.l.length)(hfu:2*(zB E.l i-i)<=n+1)(hlen:out.length+(gPart E.l E.fr (n+1) i).length<=1000000000)(hns:ns.length=out.length) :
  Calls Tryz.prog 29 #[.pointer (some ⟨E.g,0,none⟩)] W (cpPost w0 E out ns ov nv (gPart E.l E.fr (n+1) i) (zB E.l i) W):=by
 rw[gPart]at hlen ⊢;rw[lC]at hlen;have hg:=zS (zZ F.w) hil;have hpt:zO E.l i=E.l[i]:=by unfold zO;simp[gD,hil]
 have hfi:i<E.fr.length:=by rw[F.n];exact hil
 have hpn:pnAt E.l E.fr i=(zO E.l i,E.fr[i]):=by unfold pnAt zO;simp[gD,hfi]
 obtain⟨c0,c1,c2,c3,c4,cz⟩:=hi.s.cells;have hLr:=F.L;have hFr:=F.F;obtain⟨la,lc,hvl,hlc⟩:=F.L.slice;obtain⟨fa,fc,hvf,hfc,_⟩:=F.F.open';rw[hvl]at hLr c0;rw[hvf]at hFr c1;obtain⟨lb,lo,rfl,y1,y2,y3,y4⟩:=hLr.at (bR _ _) (show 0<E.l.length by omega);clear y1 y2 y3 y4;obtain⟨fb,fo,rfl,y1,y2,y4⟩:=zVo hFr (bR _ _) (show 0<E.fr.length by omega);clear y1 y2 y4;have HCL:Hid (∀W',Below W.heap.size W W'->W'.cell? ⟨lb,lo+i*3,none⟩=some (.int .u8 ((zO E.l i).1:Int))/\W'.cell? ⟨lb,lo+i*3+1,none⟩=some (.int .i64 (zO E.l i).2.1)/\W'.cell? ⟨lb,lo+i*3+2,none⟩=some (.string (zO E.l i).2.2)):=Hd λW' hb=>by
  obtain⟨b2,o2,e',_,_,_,hcc⟩:=hLr.at (zD hi.b hb) (show 0<E.l.length by omega);simp only[Option.some.injEq,Addr.mk.injEq,and_true]at e';obtain⟨rfl,rfl⟩:=e';rw[hpt];exact hcc i hil
 have HCF:Hid (∀W',Below w0.heap.size w0 W'->W'.cell? ⟨fb,fo+i,none⟩=some (.int .i64 E.fr[i])):=Hd λW' hb=>by
  obtain⟨b2,o2,e',_,_,hcc⟩:=zVo hFr hb (show 0<E.fr.length by omega);simp only[Option.some.injEq,Addr.mk.injEq,and_true]at e';obtain⟨rfl,rfl⟩:=e';exact hcc i _ (gE hfi)
 have hgl:=yH hi.s;have hfb:fb<w0.heap.size:=by
  have h:=HCF.out w0 (bR _ _);apply Classical.byContradiction;intro hc;simp[World.cell?,Array.getElem?_eq_none (show w0.heap.size<=fb by omega)]at h
 have hg0:=hi.g0;have HSF:Hid (∀W' o' n' ov' nv',CpIn w0 E o' n' i ov' nv' W'->W'.cell? ⟨E.g,1,none⟩=some (.slice (some ⟨fb,fo,none⟩) E.fr.length fc)/\W'.cell? ⟨E.g,4,none⟩=some (.int .i64 (i:Int))/\W'.cell? ⟨fb,fo+i,none⟩=some (.int .i64 E.fr[i])):=Hd λW' o' n' ov' nv' hc=>⟨by rw[hc.s.cells.2.1,hvf],hc.s.cells.2.2.2.2.1,HCF.out W' hc.b⟩
 have HSG:Hid (∀W' ov' nv' u,cpB E ov' nv' i W'->Below w0.heap.size w0 (W'.setCell ⟨E.g,3,none⟩ u)->W'.cell? ⟨E.g,1,none⟩=some (.slice (some ⟨fb,fo,none⟩) E.fr.length fc)/\W'.cell? ⟨E.g,4,none⟩=some (.int .i64 (i:Int))/\W'.cell? ⟨fb,fo+i,none⟩=some (.int .i64 E.fr[i])):=Hd λW' ov' nv' u hc hb=>⟨by rw[hc.cells.2.1,hvf],hc.cells.2.2.2.2.1,by
  have h:=HCF.out _ hb;have hne:fb≠(⟨E.g,3,none⟩:Addr).block:=by show fb≠E.g;omega
  unfold World.cell? at h ⊢;rw[heap_setCell_other _ _ _ _ hne]at h;exact h⟩
 have hfl:(i:Int)<E.fr.length:=Z;have hflc:(i:Int)<(fc:Int):=Z;have hi9:(i:Int)+1<=9223372036854775807:=by have:=F.s.1;omega
 unfold EachC at ihE;have HEI:=Hd (λW' o' n' ov' nv'=>ihE W' o' n' i ov' nv');have HS0:Hid (∀W',Below W.heap.size W W'->W'.cell? ⟨E.g,0,none⟩=some (.slice (some ⟨lb,lo,none⟩) E.l.length lc)/\W'.cell? ⟨E.g,4,none⟩=some (.int .i64 (i:Int))/\W'.cell? ⟨lb,lo+i*3,none⟩=some (.int .u8 ((zO E.l i).1:Int))/\W'.cell? ⟨lb,lo+i*3+1,none⟩=some (.int .i64 (zO E.l i).2.1)/\W'.cell? ⟨lb,lo+i*3+2,none⟩=some (.string (zO E.l i).2.2)):=Hd λW' hb=>⟨by rw[hb.cell (p:=⟨E.g,0,none⟩) hgl];exact c0,by rw[hb.cell (p:=⟨E.g,4,none⟩) hgl];exact c4,HCL.out W' hb⟩
 have HI:=Hd hi;have HF:=Hd F;have hi0:(0:Int)<=(i:Int):=Z;have hill:(i:Int)<E.l.length:=Z;have hilc:(i:Int)<(lc:Int):=Z;have hpn':=Hd hpn;have hNS:=Hd hns;have hLN:=Hd hlen;have hFU:=Hd hfu;clear hi F ihE hvl hvf hLr hFr hg0 c0 c1 c2 c3 c4 cz hpt hpn hns hlen hfu;generalize E.fr[i]=fz at *;generalize zO E.l i=pp at *;obtain⟨pk,pn,pw⟩:=pp;simp only[]at HS0 HCL;go_enter Tryz.func29,Tryz.ntmps29;go_upto_region 0 with(fail)
 go_region_held3 (λW'=>W'.cell? ⟨E.g,0,none⟩=some (.slice (some ⟨lb,lo,none⟩) E.l.length lc)/\W'.cell? ⟨E.g,4,none⟩=some (.int .i64 (i:Int))/\W'.cell? ⟨lb,lo+i*3,none⟩=some (.int .u8 (pk:Int))/\W'.cell? ⟨lb,lo+i*3+1,none⟩=some (.int .i64 pn)/\W'.cell? ⟨lb,lo+i*3+2,none⟩=some (.string pw)) (first|exact HS0.out _ (bR _ _).drew|exact HS0.out _ ((bR _ _).drew.alloc (nR _) _)|exact HS0.out _ ((bR _ _).alloc (nR _) _).drew|exact HS0.out _ ((((bR _ _).alloc (nR _) _).drew.setCell Ob _).setCell Ob _)|exact HS0.out _ (((((bR _ _).alloc (nR _) _).drew.setCell Ob _).setCell Ob _).setCell Ob _)) (fail)
 have HBX:=Hd (((bR W.heap.size W).alloc (nR _) (.cells #[.int .u8 (pk:Int),.int .i64 pn,.string pw] 33)).drew);have HP1:Hid (PK (W.alloc (.cells #[.int .u8 (pk:Int),.int .i64 pn,.string pw] 33)).drew W.heap.size (pk,pn,pw)):=Hd ((PK.alloc_new W (pk,pn,pw)).keep (bR _ _).drew);have HC1:=Hd (HI.out.below HBX.out);have HK1:=Hd (KpC.of_below (g:=E.g) (ov:=ov) (nv:=nv) HBX.out);have HTG:Hid (W.heap.size≠E.g):=Hd Z;have HTO:Hid (ov.ownBlock≠some W.heap.size):=Hd (λe=>by have:=(HI.out.o.lt _ e).2;omega);have HTN:Hid (nv.ownBlock≠some W.heap.size):=Hd (λe=>by have:=(HI.out.f.lt _ e).2;omega);clear HBX;generalize(W.alloc (.cells #[.int .u8 (pk:Int),.int .i64 pn,.string pw] 33)).drew=W1 at *;have hol:out.length<=1000000000:=by have:=hLN.out;omega
 clear HS0;go_upto_region 1 with(fail);refine zAz (λa a' w'=>∃(va:Option Addr) (vn vc gb:Nat),a'=((((((((((a.put (some 13) (.pointer (some ⟨E.g,0,none⟩))).put (some 14) (.pointer (some ⟨E.g,0,none⟩))).put (some 15) (.pointer (some ⟨E.g,0,none⟩))).put (some 16) (.pointer (some ⟨E.g,2,none⟩))).put (some 17) ov).put (some 18) (.agg #[.int .u8 (pk:Int),.int .i64 pn,.string pw])).put (some 19) (.slice (some ⟨gb,0,none⟩) 1 1)).put (some 20) (.slice va vn vc)).put (some 21) (.pointer (some ⟨E.g,0,none⟩))).put (some 22) (.pointer (some ⟨E.g,2,none⟩)))/\CpIn w0 E (out++[(pk,pn,pw)]) ns i (.slice va vn vc) nv w'/\PK w' W.heap.size (pk,pn,pw)/\KpC E.g ov nv (.slice va vn vc) nv W w'/\(Value.slice va vn vc).ownBlock≠some W.heap.size/\nv.ownBlock≠some W.heap.size) ?_ ?_
 .refine wp_region_held_drew (S:=λW'=>W'.cell? ⟨W.heap.size,0,none⟩=some (.int .u8 (pk:Int))/\W'.cell? ⟨W.heap.size,1,none⟩=some (.int .i64 pn)/\W'.cell? ⟨W.heap.size,2,none⟩=some (.string pw)) Oa (pk3 (HP1.out.keep (bR _ _).drew)) (λhHeld=>?_);have HD:=Hd (HC1.out.below (bR _ _).drew);have HPD:=Hd (HP1.out.keep (bR _ _).drew);have HKD:=Hd (HK1.out.trans (KpC.of_below (bR _ _).drew));clear HC1 HP1 HK1;generalize W1.drew=wd at *;refine tH 0 13 hHeld ?_;refine tH 1 14 hHeld ?_;refine tH 2 15 hHeld ?_;refine tH 3 16 hHeld ?_;refine tH 5 18 hHeld ?_;have HSA:=Hd (pk3 (HPD.out.keep ((bR wd.heap.size wd).alloc (nR _) (.cells #[.int .u8 (pk:Int),.int .i64 pn,.string pw] 33))));have HDA:=Hd (HD.out.below ((bR wd.heap.size wd).alloc (nR _) (.cells #[.int .u8 (pk:Int),.int .i64 pn,.string pw] 33)));refine wpAnyH_ready (rs:=[4,6]) Oa Ob ?_;refine AllReadyH.cons (o:=⟨some 17,_,_,_,_,_⟩) rfl (λK hK=>?q1A) (AllReadyH.cons (o:=⟨some 19,_,_,_,_,_⟩) rfl (λK hK=>?q1B) AllReadyH.nil)
  case q1A =>
   obtain⟨c0,c1,c2,c3,c4,cz⟩:=HD.out.s.cells;go_simp;clear c0 c1 c2 c3 c4 cz;refine hK.out _ _ hHeld (λhH2=>?_);clear hK K hHeld;(try simp only[qA,qL,qZ,qS])
   refine rH 6 (some 19) λK hK=>?_;go_simp;refine hK.out _ (wd.alloc (.cells #[.int .u8 (pk:Int),.int .i64 pn,.string pw] 33)) HSA.out (λhH3=>?_);clear hK K hH2;(try simp only[qA,qL,qZ,qS])
   refine rH 7 (some 20) λK hK=>?_;rw[iP Oa];obtain⟨vx,w6,hr,hsx,hcx,hkx⟩:=HD.out.part (pk,pn,pw) Z;obtain⟨vxa,vxn,vxc,rfl⟩:=zI hcx.o;have HSX:=Hd hsx;have HCX:=Hd hcx;have HKX:=Hd hkx;have HS6:=Hd (pk3 (zBa HPD.out hkx HTG.out HTO.out HTN.out).1);have HS7:=Hd (pk3 (zBa HPD.out hkx HTG.out HTO.out HTN.out).2);clear hsx hcx hkx;refine vR _ _ _ _ hr rfl rfl rfl rfl ?_;refine hK.out _ _ HS6.out (λhH5=>?_);clear hK K hr hH3;(try simp only[qA,qL,qZ,qS])
   refine tH 8 21 hH5 ?_;refine tH 9 22 hH5 ?_;obtain⟨c0,c1,c2,c3,c4,cz⟩:=HSX.out.cells;refine rH 10 none λK hK=>?_;go_simp;refine hK.out _ _ HS7.out (λhH6=>?_);clear hK K hH5 c0 c1 c2 c3 c4 cz;(try simp only[qA,qL,qZ,qS])
   refine wpAnyH_done Oa ?_ _;refine⟨vxa,vxn,vxc,wd.heap.size,?_,HCX.out,(zBa HPD.out HKX.out HTG.out HTO.out HTN.out).2,HKD.out.trans HKX.out,zRx HPD.out HKX.out HTO.out,HTN.out⟩
   kernel_rfl
  case q1B =>
   go_simp;refine hK.out _ (wd.alloc (.cells #[.int .u8 (pk:Int),.int .i64 pn,.string pw] 33)) HSA.out (λhH2=>?_);clear hK K hHeld;(try simp only[qA,qL,qZ,qS])
   refine rH 4 (some 17) λK hK=>?_;obtain⟨c0,c1,c2,c3,c4,cz⟩:=HDA.out.s.cells;go_simp;clear c0 c1 c2 c3 c4 cz;refine hK.out _ _ hH2 (λhH3=>?_);clear hK K hH2;(try simp only[qA,qL,qZ,qS])
   refine rH 7 (some 20) λK hK=>?_;rw[iP Oa];obtain⟨vx,w6,hr,hsx,hcx,hkx⟩:=HD.out.part (pk,pn,pw) Z;obtain⟨vxa,vxn,vxc,rfl⟩:=zI hcx.o;have HSX:=Hd hsx;have HCX:=Hd hcx;have HKX:=Hd hkx;have HS6:=Hd (pk3 (zBa HPD.out hkx HTG.out HTO.out HTN.out).1);have HS7:=Hd (pk3 (zBa HPD.out hkx HTG.out HTO.out HTN.out).2);clear hsx hcx hkx;refine vR _ _ _ _ hr rfl rfl rfl rfl ?_;refine hK.out _ _ HS6.out (λhH5=>?_);clear hK K hr hH3;(try simp only[qA,qL,qZ,qS])
   refine tH 8 21 hH5 ?_;refine tH 9 22 hH5 ?_;obtain⟨c0,c1,c2,c3,c4,cz⟩:=HSX.out.cells;refine rH 10 none λK hK=>?_;go_simp;refine hK.out _ _ HS7.out (λhH6=>?_);clear hK K hH5 c0 c1 c2 c3 c4 cz;(try simp only[qA,qL,qZ,qS])
   refine wpAnyH_done Oa ?_ _;refine⟨vxa,vxn,vxc,wd.heap.size,?_,HCX.out,(zBa HPD.out HKX.out HTG.out HTO.out HTN.out).2,HKD.out.trans HKX.out,zRx HPD.out HKX.out HTO.out,HTN.out⟩
   kernel_rfl
 rintro _ w2 ⟨v2a,v2n,v2c,gb,rfl,hc2,hp2,hk2,ho2,hn2⟩;have HC2:=Hd hc2;have HP2:=Hd hp2;have HK2:=Hd hk2;have HTO2:=Hd ho2;have HTN2:=Hd hn2;clear hc2 hp2 hk2 ho2 hn2 HC1 HP1 HK1;(try simp only[qA,qL,qZ,qS])
 go_upto_region 2 with(fail);refine zAz (λa a' w'=>∃(va:Option Addr) (vn vc gb:Nat),a'=(((((((((((((((((((a.put (some 23) (.pointer (some ⟨E.g,0,none⟩))).put (some 24) (.pointer (some ⟨E.g,0,none⟩))).put (some 25) (.pointer (some ⟨E.g,0,none⟩))).put (some 26) (.pointer (some ⟨E.g,3,none⟩))).put (some 27) nv).put (some 28) (.pointer (some ⟨E.g,0,none⟩))).put (some 29) (.pointer (some ⟨E.g,0,none⟩))).put (some 30) (.pointer (some ⟨E.g,1,none⟩))).put (some 31) (.slice (some ⟨fb,fo,none⟩) E.fr.length fc)).put (some 32) (.pointer (some ⟨E.g,0,none⟩))).put (some 33) (.pointer (some ⟨E.g,0,none⟩))).put (some 34) (.pointer (some ⟨E.g,4,none⟩))).put (some 35) (.int .i64 (i:Int))).put (some 36) (.pointer (some ⟨fb,fo+i,none⟩))).put (some 37) (.int .i64 fz)).put (some 38) (.slice (some ⟨gb,0,none⟩) 1 1)).put (some 39) (.slice va vn vc)).put (some 40) (.pointer (some ⟨E.g,0,none⟩))).put (some 41) (.pointer (some ⟨E.g,3,none⟩)))/\CpIn w0 E (out++[(pk,pn,pw)]) (ns++[fz]) i (.slice v2a v2n v2c) (.slice va vn vc) w'/\PK w' W.heap.size (pk,pn,pw)/\KpC E.g ov nv (.slice v2a v2n v2c) (.slice va vn vc) W w') ?_ ?_
 .refine wp_region_held_drew (S:=λW'=>W'.cell? ⟨E.g,1,none⟩=some (.slice (some ⟨fb,fo,none⟩) E.fr.length fc)/\W'.cell? ⟨E.g,4,none⟩=some (.int .i64 (i:Int))/\W'.cell? ⟨fb,fo+i,none⟩=some (.int .i64 fz)) Oa (HSF.out _ _ _ _ _ (HC2.out.below (bR _ _).drew)) (λhHeld=>?_);have HD:=Hd (HC2.out.below (bR _ _).drew);have HPD:=Hd (HP2.out.keep (bR _ _).drew);have HKD:=Hd (HK2.out.trans (KpC.of_below (bR _ _).drew));clear HC2 HP2 HK2;generalize w2.drew=wd at *;refine tH 0 23 hHeld ?_;refine tH 1 24 hHeld ?_;refine tH 2 25 hHeld ?_;refine tH 3 26 hHeld ?_;refine tH 5 28 hHeld ?_;refine tH 6 29 hHeld ?_;refine tH 7 30 hHeld ?_;refine tH 8 31 hHeld ?_;refine tH 9 32 hHeld ?_;refine tH 10 33 hHeld ?_;refine tH 11 34 hHeld ?_;refine tH 12 35 hHeld ?_;refine tH 13 36 hHeld ?_;refine tH 14 37 hHeld ?_;have HSA:=Hd (HSF.out _ _ _ _ _ (HD.out.below ((bR wd.heap.size wd).alloc (nR _) (.cells #[.int .i64 fz] 3))));have HDA:=Hd (HD.out.below ((bR wd.heap.size wd).alloc (nR _) (.cells #[.int .i64 fz] 3)));refine wpAnyH_ready (rs:=[4,15]) Oa Ob ?_;refine AllReadyH.cons (o:=⟨some 27,_,_,_,_,_⟩) rfl (λK hK=>?q2A) (AllReadyH.cons (o:=⟨some 38,_,_,_,_,_⟩) rfl (λK hK=>?q2B) AllReadyH.nil)
  case q2A =>
   obtain⟨c0,c1,c2,c3,c4,cz⟩:=HD.out.s.cells;go_simp;clear c0 c1 c2 c3 c4 cz;refine hK.out _ _ hHeld (λhH2=>?_);clear hK K hHeld;(try simp only[qA,qL,qZ,qS])
   refine rH 15 (some 38) λK hK=>?_;go_simp;refine hK.out _ (wd.alloc (.cells #[.int .i64 fz] 3)) HSA.out (λhH3=>?_);clear hK K hH2;(try simp only[qA,qL,qZ,qS])
   refine rH 16 (some 39) λK hK=>?_;rw[iP Oa];obtain⟨vx,w6,hr,hsx,hcx,hkx⟩:=HD.out.num fz (by have:=hNS.out;omega);obtain⟨vxa,vxn,vxc,rfl⟩:=zI hcx.f;have HSX:=Hd hsx;have HCX:=Hd hcx;have HKX:=Hd hkx;have HS6:=Hd (HSG.out _ _ _ _ hsx hcx.b);have HS7:=Hd (HSF.out _ _ _ _ _ hcx);clear hsx hcx hkx;refine vR _ _ _ _ hr rfl rfl rfl rfl ?_;refine hK.out _ _ HS6.out (λhH5=>?_);clear hK K hr hH3;(try simp only[qA,qL,qZ,qS])
   refine tH 17 40 hH5 ?_;refine tH 18 41 hH5 ?_;obtain⟨c0,c1,c2,c3,c4,cz⟩:=HSX.out.cells;refine rH 19 none λK hK=>?_;go_simp;refine hK.out _ _ HS7.out (λhH6=>?_);clear hK K hH5 c0 c1 c2 c3 c4 cz;(try simp only[qA,qL,qZ,qS])
   refine wpAnyH_done Oa ?_ _;refine⟨vxa,vxn,vxc,wd.heap.size,?_,HCX.out,(zBa HPD.out HKX.out HTG.out HTO2.out HTN2.out).2,HKD.out.trans HKX.out⟩
   kernel_rfl
  case q2B =>
   go_simp;refine hK.out _ (wd.alloc (.cells #[.int .i64 fz] 3)) HSA.out (λhH2=>?_);clear hK K hHeld;(try simp only[qA,qL,qZ,qS])
   refine rH 4 (some 27) λK hK=>?_;obtain⟨c0,c1,c2,c3,c4,cz⟩:=HDA.out.s.cells;go_simp;clear c0 c1 c2 c3 c4 cz;refine hK.out _ _ hH2 (λhH3=>?_);clear hK K hH2;(try simp only[qA,qL,qZ,qS])
   refine rH 16 (some 39) λK hK=>?_;rw[iP Oa];obtain⟨vx,w6,hr,hsx,hcx,hkx⟩:=HD.out.num fz (by have:=hNS.out;omega);obtain⟨vxa,vxn,vxc,rfl⟩:=zI hcx.f;have HSX:=Hd hsx;have HCX:=Hd hcx;have HKX:=Hd hkx;have HS6:=Hd (HSG.out _ _ _ _ hsx hcx.b);have HS7:=Hd (HSF.out _ _ _ _ _ hcx);clear hsx hcx hkx;refine vR _ _ _ _ hr rfl rfl rfl rfl ?_;refine hK.out _ _ HS6.out (λhH5=>?_);clear hK K hr hH3;(try simp only[qA,qL,qZ,qS])
   refine tH 17 40 hH5 ?_;refine tH 18 41 hH5 ?_;obtain⟨c0,c1,c2,c3,c4,cz⟩:=HSX.out.cells;refine rH 19 none λK hK=>?_;go_simp;refine hK.out _ _ HS7.out (λhH6=>?_);clear hK K hH5 c0 c1 c2 c3 c4 cz;(try simp only[qA,qL,qZ,qS])
   refine wpAnyH_done Oa ?_ _;refine⟨vxa,vxn,vxc,wd.heap.size,?_,HCX.out,(zBa HPD.out HKX.out HTG.out HTO2.out HTN2.out).2,HKD.out.trans HKX.out⟩
   kernel_rfl
 rintro _ w3 ⟨v3a,v3n,v3c,gc,rfl,hc3,hp3,hk3⟩;have HC3:=Hd hc3;have HP3:=Hd hp3;have HK3:=Hd hk3;clear hc3 hp3 hk3 HC2 HP2 HK2 HTO2 HTN2 HTO HTN HI;(try simp only[qA,qL,qZ,qS])
 have HC4:Hid (CpIn w0 E (out++[(pk,pn,pw)]) (ns++[fz]) (i+1) (.slice v2a v2n v2c) (.slice v3a v3n v3c) (w3.setCell ⟨E.g,4,none⟩ (.int .i64 ((i:Int)+1)))):=Hd (by
  have h:=HC3.out.step (i+1)
  rwa [show(((i+1:Nat)):Int)=(i:Int)+1 from by push_cast;rfl]at h)
 have HK4:=Hd (HK3.out.setG 4 (.int .i64 ((i:Int)+1)));have HP4:Hid (PK (w3.setCell ⟨E.g,4,none⟩ (.int .i64 ((i:Int)+1))) W.heap.size (pk,pn,pw)):=Hd (by
  have h:=HP3.out;unfold PK at *;rw[heap_setCell_other _ _ _ _ HTG.out];exact h)
 obtain⟨c0,c1,c2,c3,c4,cz⟩:=HC3.out.s.cells;go_upto_region 4 with(fail);clear c0 c1 c2 c3 c4 cz HC3 HP3 HK3;generalize w3.setCell ⟨E.g,4,none⟩ (.int .i64 ((i:Int)+1))=w4 at *;have p0:=HP4.out.c0;have p1:=HP4.out.c1;have p2:=HP4.out.c2;simp only[]at p0 p1 p2;go_wp2_with fail;refine(HEI.out w4 _ _ _ _ HC4.out hil (by have:=hFU.out;omega) (by have:=hLN.out;simp only[lA,List.length_singleton];omega) (by have:=hNS.out;simp only[lA,List.length_singleton];omega)).mono ?_;intro e w5 hp;unfold cpPost at hp;obtain⟨ov5,nv5,v5,rfl,hc5,hk5⟩:=hp;have HZ:Hid (∀v,cpPost w0 E out ns ov nv (pnAt E.l E.fr i::gKids E.l E.fr n (pk,pn,pw) 0 (i+1) (zB E.l i)) (zB E.l i) W (.returned v) w5):=Hd λv=>by
  unfold cpPost;refine⟨ov5,nv5,v,rfl,?_,HK4.out.trans hk5⟩;rw[hpn'.out]
  simpa[List.append_assoc]using hc5
 clear hc5 hk5 p0 p1 p2;go_wp2_with fail;go_end0;exact HZ.out _
@[irreducible] def eRel(w0:World)(E:CpE)(i q n:Nat)(W1:World)(ov nv:Value)(X:List Prt)(Y:List Int)(iv:Value)(wr:World):Prop :=
 ∃(nth k m:Nat) (out':List Prt) (ns':List Int) (ov' nv':Value),iv=.int .i64 (nth:Int)/\nth<=q/\advT E.l nth (i+1) (zB E.l i)=some k/\CpIn w0 E out' ns' k ov' nv' wr/\KpC E.g ov nv ov' nv' W1 wr/\
  out'++(gKids E.l E.fr m (zO E.l i) nth k (zB E.l i)).map (·.1)=X/\ns'++(gKids E.l E.fr m (zO E.l i) nth k (zB E.l i)).map (·.2)=Y/\2*(zB E.l i-k)+1<=m/\m<=n/\ns'.length=out'.length
theorem zZh{l:List Prt}{us:List Nat}(hl:zC l=some us){i q nth k:Nat}(hi:i<l.length)(hq:advT l q (i+1) (zB l i)=some (zB l i))(hk:advT l nth (i+1) (zB l i)=some k)(hn:nth<q):k<zB l i/\advT l (nth+1) (i+1) (zB l i)=some (zB l k)/\zB l k<=zB l i:=by
 have hg:=zS hl hi;obtain⟨r1,r2,r3⟩:=zBi hl hg.2 hq hk;have hne:k≠zB l i:=by
  intro e;subst e;obtain⟨J,hJ⟩:∃J,q-nth=J+1:=⟨q-nth-1,Z⟩;rw[hJ]at r3;rw[advT,iN Z]at r3;cases r3
 obtain⟨hlt,J,_,hJ⟩:=jG r3 hne;have h5:=jR hl _ _ _ _ hg.2 hJ;exact⟨hlt,by rw[jV,hk,Option.bind_some,advT,iP hlt,advT],Z⟩
theorem zOo{l:List Prt}{us:List Nat}(hl:zC l=some us){stop:Nat}(hs:stop<=l.length):∀n k b,advT l n k stop=some b->k+n<=b
 |0,k,b,h=>by rw[advT]at h;cases h;omega
 |n+1,k,b,h=>by
  rw[advT]at h;split at h
  .rename_i hlt;have h1:=zOo hl hs n _ b h;have h2:=(zS hl (show k<l.length by omega)).1;omega
  .cases h
theorem yEi(w0:World)(E:CpE)(F:CpF w0 E)(n:Nat)(ihP:∀m,m<n->PutC w0 E m)(W:World)(out:List Prt)(ns:List Int)(i:Nat)(ov nv:Value)(hi:CpIn w0 E out ns (i+1) ov nv W)(hil:i<E.l.length)(hfu:2*(zB E.l i-(i+1))+1<=n)(hlen:out.length+(gKids E.l E.fr n (zO E.l i) 0 (i+1) (zB E.l i)).length<=1000000000)(hns:ns.length=out.length) :
  Calls Tryz.prog 46 #[.pointer (some ⟨E.g,0,none⟩),partA (zO E.l i),.func (.func 29) #[.pointer (some ⟨E.g,0,none⟩)] #[]] W (cpPost w0 E out ns ov nv (gKids E.l E.fr n (zO E.l i) 0 (i+1) (zB E.l i)) (zB E.l i) W):=by
 obtain⟨q,hq1,hq2,hq3,hq4⟩:=zBw (zZ F.w) hil;have hgg:=zS (zZ F.w) hil;have hpt:zO E.l i=E.l[i]:=by unfold zO;simp[gD,hil]
 have hps:(zO E.l i).2.2.size<=1048576:=by rw[hpt];exact(F.s.2 _ (gM hil)).2
 have hq9:q<=1048576:=by
  have h1:=F.s.1;have h2:=zOo (zZ F.w) hgg.2 _ _ _ hq2;omega
 have hgl:=yH hi.s;have HBX:=Hd ((bR W.heap.size W).alloc (nR _) (.cells #[.int .u8 ((zO E.l i).1:Int),.int .i64 (zO E.l i).2.1,.string (zO E.l i).2.2] 33));have HP1:=Hd (PK.alloc_new W (zO E.l i));have HC1:=Hd (hi.below HBX.out);have HK1:=Hd (KpC.of_below (g:=E.g) (ov:=ov) (nv:=nv) HBX.out);have HTG:Hid (W.heap.size≠E.g):=Hd Z;have HTO:Hid (ov.ownBlock≠some W.heap.size):=Hd (λe=>by have:=(hi.o.lt _ e).2;omega);have HTN:Hid (nv.ownBlock≠some W.heap.size):=Hd (λe=>by have:=(hi.f.lt _ e).2;omega);have hk2:(zO E.l i).2.1=(q:Int):=by rw[hpt];exact hq1
 have HF:=Hd F;have HPP:=Hd (rfl:zO E.l i=zO E.l i);obtain⟨X,hX⟩:∃X,out++(gKids E.l E.fr n (zO E.l i) 0 (i+1) (zB E.l i)).map (·.1)=X:=⟨_,rfl⟩;obtain⟨Y,hY⟩:∃Y,ns++(gKids E.l E.fr n (zO E.l i) 0 (i+1) (zB E.l i)).map (·.2)=Y:=⟨_,rfl⟩;have hXl:X.length<=1000000000:=by rw[<-hX];simp;omega
 have HQ:Hid (∀W1 w' ov' nv' v,KpC E.g ov nv ov nv W W1->CpIn w0 E X Y (zB E.l i) ov' nv' w'->KpC E.g ov nv ov' nv' W1 w'->cpPost w0 E out ns ov nv (gKids E.l E.fr n (zO E.l i) 0 (i+1) (zB E.l i)) (zB E.l i) W (.returned v) w'):=Hd λW1 w' ov' nv' v h1 hc hk=>by
  unfold cpPost;exact⟨ov',nv',v,rfl,by rw[hX,hY];exact hc,h1.trans hk⟩
 have HR0:Hid (∀W1,CpIn w0 E out ns (i+1) ov nv W1->eRel w0 E i q n W1 ov nv X Y (.int .i64 0) W1):=Hd λW1 hc=>by
  unfold eRel;exact⟨0,i+1,n,out,ns,ov,nv,rfl,Nat.zero_le _,rfl,hc,KpC.refl _ _ _ _,hX,hY,hfu,nR _,hns⟩
 generalize cpPost w0 E out ns ov nv (gKids E.l E.fr n (zO E.l i) 0 (i+1) (zB E.l i)) (zB E.l i) W=Q at *;clear hX hY hpt hq1 hi F hlen hns;unfold partA;have HKQ:=Hd hk2;rw[hk2]at HBX HP1 HC1 HK1 ⊢;clear hk2 hq3 hq4;go_enter Tryz.func46,Tryz.ntmps46;go_upto_region 1 with(fail);generalize W.alloc (.cells #[.int .u8 ((zO E.l i).1:Int),.int .i64 (q:Int),.string (zO E.l i).2.2] 33)=W1 at *;have p1:=HP1.out.c1;rw[HKQ.out]at p1;go_wp2_with fail;clear p1;go_loopw [9] (λiv wr=>eRel w0 E i q n W1 ov nv X Y iv wr) (λiv _=>q-(intOf iv).toNat)
 case atStart=>exact HR0.out W1 HC1.out
 case round =>
  unfold eRel at hrel;obtain⟨nth,k,m,out',ns',ov',nv',rfl,hnq,hk,hc,hkp,hx,hy,hm,hmn,hns'⟩:=hrel;by_cases hlt:nth<q
  .obtain⟨hks,hk',hke⟩:=zZh (zZ HF.out.w) hil hq2 hk hlt;obtain⟨m,rfl⟩:∃m',m=m'+1:=⟨m-1,Z⟩;rw[gKids,iN Z]at hx hy;have hkl:k<E.l.length:=Z;have HPr:Hid (PK wr W.heap.size (zO E.l i)):=Hd (by
    have h:=HP1.out;unfold PK at *;rw[hkp.low _ (lt_of_block h) HTG.out HTO.out HTN.out];exact h)
   have hto:ov'.ownBlock≠some W.heap.size:=zRx HP1.out hkp HTO.out;have htn:nv'.ownBlock≠some W.heap.size:=λe=>by
    have hl:=lt_of_block HP1.out;rcases hkp.nn _ e with e|e
    .exact HTN.out e
    .omega
   have HTO':=Hd hto;have HTN':=Hd htn;have HLA:=HF.out.L;obtain⟨la,lc,hvl,hlc⟩:=HF.out.L.slice;rw[hvl]at HLA;obtain⟨lb,lo,rfl,y1,y2,y3,y4⟩:=HLA.at (bR _ _) (show 0<E.l.length by omega);clear y1 y2 y3 y4;have hpk:zO E.l k=E.l[k]:=by unfold zO;simp[gD,hkl]
   have hpks:(zO E.l k).2.2.size<=1048576:=by rw[hpk];exact(HF.out.s.2 _ (gM hkl)).2
   have HSF:Hid (∀W',Below wr.heap.size wr W'->W'.cell? ⟨E.g,0,none⟩=some (.slice (some ⟨lb,lo,none⟩) E.l.length lc)/\W'.cell? ⟨E.g,4,none⟩=some (.int .i64 (k:Int))/\W'.cell? ⟨lb,lo+k*3,none⟩=some (.int .u8 ((zO E.l k).1:Int))/\W'.cell? ⟨lb,lo+k*3+1,none⟩=some (.int .i64 (zO E.l k).2.1)/\W'.cell? ⟨lb,lo+k*3+2,none⟩=some (.string (zO E.l k).2.2)/\W'.cell? ⟨W.heap.size,0,none⟩=some (.int .u8 ((zO E.l i).1:Int))/\W'.cell? ⟨W.heap.size,1,none⟩=some (.int .i64 (zO E.l i).2.1)/\W'.cell? ⟨W.heap.size,2,none⟩=some (.string (zO E.l i).2.2)/\Hid (Below wr.heap.size wr W')):=Hd λW' hb=>by
    have hc':=hc.below hb;have hp':=HPr.out.keep hb;obtain⟨b2,o2,e',_,_,_,hcc⟩:=HLA.at hc'.b (show 0<E.l.length by omega);simp only[Option.some.injEq,Addr.mk.injEq,and_true]at e';obtain⟨rfl,rfl⟩:=e';obtain⟨d0,d1,d2⟩:=hcc k hkl;rw[hpk];exact⟨by rw[hc'.s.cells.1,hvl],hc'.s.cells.2.2.2.2.1,d0,d1,d2,hp'.c0,hp'.c1,hp'.c2,Hd hb⟩
   have hwb:Below w0.heap.size w0 wr:=hc.b;have CV:=Hd (λW' (hb:Below wr.heap.size wr W')=>zFr (zO E.l k) hpks W' ((HF.out.M.below hwb).below hb));have CE:=Hd (λW' (hb:Below wr.heap.size wr W')=>zOp (zO E.l i) nth Z hps W' ((HF.out.M.below hwb).below hb));unfold partA at CV CE;have HC:=Hd hc;have HKP:=Hd hkp;have HNS:=Hd hns';have HXX:=Hd hx;have HYY:=Hd hy;have hk0:(0:Int)<=(k:Int):=Z;have hkll:(k:Int)<E.l.length:=Z;have hklc:(k:Int)<(lc:Int):=Z;clear hc hkp hns' hx hy hto htn hvl HLA hpk hwb;go_upto_region 4 with(fail);have HBd:=Hd (bR wr.heap.size wr).drew;refine zAz (λa a' w'=>a'=(((((((((((((((a.put (some 12) (.pointer (some ⟨E.g,0,none⟩))).put (some 13) (.pointer (some ⟨E.g,0,none⟩))).put (some 14) (.pointer (some ⟨E.g,0,none⟩))).put (some 15) (.slice (some ⟨lb,lo,none⟩) E.l.length lc)).put (some 16) (.pointer (some ⟨E.g,0,none⟩))).put (some 17) (.pointer (some ⟨E.g,0,none⟩))).put (some 18) (.pointer (some ⟨E.g,4,none⟩))).put (some 19) (.int .i64 (k:Int))).put (some 20) (.pointer (some ⟨lb,lo+k*3,none⟩))).put (some 21) (.agg #[.int .u8 ((zO E.l k).1:Int),.int .i64 (zO E.l k).2.1,.string (zO E.l k).2.2])).put (some 22) (.int .i64 (yE (zO E.l k):Int))).put (some 23) (.agg #[.int .u8 ((zO E.l i).1:Int),.int .i64 (zO E.l i).2.1,.string (zO E.l i).2.2])).put (some 24) (.int .i64 (nth:Int))).put (some 25) (.int .i64 (zR (zO E.l i) nth:Int))).put (some 26) (.bool (decide (yE (zO E.l k)<zR (zO E.l i) nth))))/\Hid (Below wr.heap.size wr w')) ?_ ?_
   .go_region_held3 (λW'=>W'.cell? ⟨E.g,0,none⟩=some (.slice (some ⟨lb,lo,none⟩) E.l.length lc)/\W'.cell? ⟨E.g,4,none⟩=some (.int .i64 (k:Int))/\W'.cell? ⟨lb,lo+k*3,none⟩=some (.int .u8 ((zO E.l k).1:Int))/\W'.cell? ⟨lb,lo+k*3+1,none⟩=some (.int .i64 (zO E.l k).2.1)/\W'.cell? ⟨lb,lo+k*3+2,none⟩=some (.string (zO E.l k).2.2)/\W'.cell? ⟨W.heap.size,0,none⟩=some (.int .u8 ((zO E.l i).1:Int))/\W'.cell? ⟨W.heap.size,1,none⟩=some (.int .i64 (zO E.l i).2.1)/\W'.cell? ⟨W.heap.size,2,none⟩=some (.string (zO E.l i).2.2)/\Hid (Below wr.heap.size wr W'))
     (first|exact HSF.out _ HBd.out|exact HSF.out _ (zD HBd.out hbA)|exact HSF.out _ (zD HBd.out hbB)|exact HSF.out _ (zD (zD HBd.out hbA) hbB)|exact HSF.out _ (zD (zD HBd.out hbB) hbA))
     (first
      |(go_at_call 75;refine(CV.out _ (by first|exact HBd.out|exact zD HBd.out hbB)).mono ?_;rintro e wA ⟨rfl,hbA⟩;(try dsimp only))
      |(go_at_call 76;refine(CE.out _ (by first|exact HBd.out|exact zD HBd.out hbA)).mono ?_;rintro e wB ⟨rfl,hbB⟩;(try dsimp only)))
    all_goals
     rename_i hH;obtain⟨_,_,_,_,_,_,_,_,HBE⟩:=hH;exact⟨Oa,HBE⟩
   rintro _ w4 ⟨rfl,HB4⟩;(try simp only[qA,qL,qZ,qS])
   have HC4:=Hd (HC.out.below HB4.out);have HK4:=Hd (HKP.out.trans (KpC.of_below HB4.out));clear HC HKP HB4 CV CE HSF HPr HTO' HTN';have HST:Hid (∀w7 ov7 nv7,CpIn w0 E (out'++(brk (zO E.l i) nth (zO E.l k)).map (·.1)++(gPart E.l E.fr m k).map (·.1)) (ns'++(brk (zO E.l i) nth (zO E.l k)).map (·.2)++(gPart E.l E.fr m k).map (·.2)) (zB E.l k) ov7 nv7 w7->KpC E.g ov nv ov7 nv7 W1 w7->eRel w0 E i q n W1 ov nv X Y (.int .i64 ((nth:Int)+1)) w7):=Hd λw7 ov7 nv7 hc hkp=>by
    have hx:=HXX.out;have hy:=HYY.out;have hn:=HNS.out;unfold eRel;refine⟨nth+1,zB E.l k,m,_,_,ov7,nv7,by push_cast;rfl,hlt,hk',hc,hkp,by rw[<-hx];simp[List.append_assoc],by rw[<-hy];simp[List.append_assoc],?_,Z,by simp[hn]⟩;have:=(zS (zZ HF.out.w) hkl).1;omega
   have HLN:Hid (out'.length+(brk (zO E.l i) nth (zO E.l k)).length+(gPart E.l E.fr m k).length<=1000000000):=Hd (by
    have h:=congrArg List.length HXX.out;simp only[lA,List.length_map]at h;omega)
   have hfuel:2*(zB E.l k-k)<=m:=Z;have HBK:Hid (brk (zO E.l i) nth (zO E.l k)=if yE (zO E.l k)<zR (zO E.l i) nth then[paren]else[]):=Hd (by unfold brk;rw[<-zBg];by_cases h:yE (zO E.l k)<zR (zO E.l i) nth<;>simp[h]);clear HXX HYY hk hk' hm;by_cases hz:yE (zO E.l k)<zR (zO E.l i) nth
   .have hz1:decide (yE (zO E.l k)<zR (zO E.l i) nth)=true:=decide_eq_true hz;have hzi:((yE (zO E.l k):Nat):Int)<(zR (zO E.l i) nth:Int):=Z;have hbk:=HBK.out;rw[iP hz]at hbk;rw[hbk]at HST HLN;clear hbk HBK;have hol:out'.length<=1000000000:=by have:=HLN.out;omega
    have hnl:ns'.length<=1000000000:=by rw[HNS.out];exact hol
    go_upto_region 5 with(fail);obtain⟨c0,c1,c2,c3,c4,cz⟩:=HC4.out.s.cells;obtain⟨v5,w5,hr5,hs5,hc5,hk5⟩:=HC4.out.part (28,1,ByteArray.empty) Z;obtain⟨v5a,v5n,v5c,rfl⟩:=zI hc5.o;obtain⟨e0,e1,e2,e3,e4,ez⟩:=hs5.cells;have HC5:=Hd hc5;have HK5:=Hd (HK4.out.trans hk5);clear hs5 hc5 hk5;go_upto_region 6 with(at_builtin;refine zE rfl _ _ _ _ hr5 rfl rfl rfl rfl ?_);clear c0 c1 c2 c3 c4 cz e0 e1 e2 e3 e4 ez hr5 HC4 HK4;generalize w5.setCell ⟨E.g,2,none⟩ (.slice v5a v5n v5c)=w5' at *;obtain⟨c0,c1,c2,c3,c4,cz⟩:=HC5.out.s.cells;obtain⟨v6,w6,hr6,hs6,hc6,hk6⟩:=HC5.out.num (-1) Z;obtain⟨v6a,v6n,v6c,rfl⟩:=zI hc6.f;obtain⟨e0,e1,e2,e3,e4,ez⟩:=hs6.cells;have HC6:=Hd hc6;have HK6:=Hd (HK5.out.trans hk6);clear hs6 hc6 hk6;go_upto_region 7 with(at_builtin;refine zE rfl _ _ _ _ hr6 rfl rfl rfl rfl ?_);clear c0 c1 c2 c3 c4 cz e0 e1 e2 e3 e4 ez hr6 HC5 HK5;generalize w6.setCell ⟨E.g,3,none⟩ (.slice v6a v6n v6c)=w6' at *;go_wp2_with fail;have hp:=ihP m Z;unfold PutC at hp;refine(hp w6' _ _ k _ _ HC6.out hkl hfuel (by have:=HLN.out;simp only[lA,List.length_singleton]at *;omega) (by have:=HNS.out;simp only[lA,List.length_singleton];omega)).mono ?_;clear hp;intro e w7 hp;unfold cpPost at hp;obtain⟨ov7,nv7,v7,rfl,hc7,hk7⟩:=hp;have HRL:=Hd (HST.out w7 ov7 nv7 hc7 (HK6.out.trans hk7));clear hc7 hk7;go_wp2_with fail;go_roundw
    case rel=>exact HRL.out
    case measure=>simp only[intOf];omega
   .have hz1:decide (yE (zO E.l k)<zR (zO E.l i) nth)=false:=decide_eq_false hz;have hzi:¬((yE (zO E.l k):Nat):Int)<(zR (zO E.l i) nth:Int):=Z;have hbk:=HBK.out;rw[iN hz]at hbk;rw[hbk]at HST HLN;simp only[List.map_nil,List.append_nil,lN,Nat.add_zero]at HST HLN;clear hbk HBK;go_wp2_with fail;have hp:=ihP m Z;unfold PutC at hp;refine(hp w4 _ _ k _ _ HC4.out hkl hfuel HLN.out HNS.out).mono ?_;clear hp;intro e w7 hp;unfold cpPost at hp;obtain⟨ov7,nv7,v7,rfl,hc7,hk7⟩:=hp;have HRL:=Hd (HST.out w7 ov7 nv7 hc7 (HK4.out.trans hk7));clear hc7 hk7;go_wp2_with fail;go_roundw
    case rel=>exact HRL.out
    case measure=>simp only[intOf];omega
  .obtain rfl:nth=q:=Z;obtain rfl:zB E.l i=k:=by rw[hq2]at hk;exact Option.some.inj hk
   cases m with
   |zero=>omega
   |succ m =>
    rw[gKids,iP rfl,List.map_nil,List.append_nil]at hx hy;subst hx;subst hy;have HZ:Hid (∀v,Q (.returned v) wr):=Hd λv=>HQ.out W1 wr ov' nv' v HK1.out hc hkp;clear hc hkp;go_wp2_with fail;go_end0;exact HZ.out _
end Go.Proofs.YtfpjdpdmgceciaaGreatDoor
namespace Go.Proofs.YtfpjdpdmgceciaaGreatDoor
set_option linter.all false
attribute [local irreducible] Calls
open Go.RowKit
theorem zZf(w0:World)(E:CpE)(F:CpF w0 E):∀n,(∀m,m<=n->PutC w0 E m)/\(∀m,m<=n->EachC w0 E m)
 |0=>by
  constructor
  .intro m hm;obtain rfl:m=0:=Z;unfold PutC;intro W out ns i ov nv hc hi h;have:=(zS (zZ F.w) hi).1;omega
  .intro m hm;obtain rfl:m=0:=Z;unfold EachC;intro W out ns i ov nv hc hi h;omega
 |n+1=>by
  obtain⟨h1,h2⟩:=zZf w0 E F n;constructor
  .intro m hm;by_cases e:m<=n
   .exact h1 m e
   .obtain rfl:m=n+1:=Z;unfold PutC;intro W out ns i ov nv hc hi hf hl hn;exact yHc w0 E F n (h2 n (nR n)) W out ns i ov nv hc hi hf hl hn
  .intro m hm;by_cases e:m<=n
   .exact h2 m e
   .obtain rfl:m=n+1:=Z;unfold EachC;intro W out ns i ov nv hc hi hf hl hn;exact yEi w0 E F (n+1) (λm hm=>h1 m Z) W out ns i ov nv hc hi hf hl hn
theorem yEh(l:List Prt)(fr:List Int)(j:Nat):(gOne l fr j).length<=2:=by
 unfold gOne;split<;>simp
theorem zUp(l:List Prt)(fr:List Int):∀n a,((List.range' a n).flatMap (gOne l fr)).length<=2*n
 |0,a=>by simp
 |n+1,a=>by
  have h1:=zUp l fr n (a+1);have h2:=yEh l fr a;rw[List.range'_succ,List.flatMap_cons,lA];omega
theorem zVx(l:List Prt)(fr:List Int):(guardZ l fr).length<=2*l.length:=by
 unfold guardZ gSeg;have:=zUp l fr (l.length-0) 0;omega
theorem zZg(w0:World)(E:CpE)(F:CpF w0 E)(W:World)(ov nv:Value)(hi:CpIn w0 E [] [] 0 ov nv W) :
  Calls Tryz.prog 29 #[.pointer (some ⟨E.g,0,none⟩)] W (cpPost w0 E [] [] ov nv (guardZ E.l E.fr) E.l.length W):=by
 have h0:=zAa F.w;have h:=(zZf w0 E F (2*E.l.length)).1 _ (nR _);unfold PutC at h;have h1:=zVx E.l E.fr;have h2:=F.s.1;have:=h W [] [] 0 ov nv hi h0.1 (by rw[h0.2];omega) (by rw[zCx E.l E.fr F.w];simp;omega) rfl;rw[zCx E.l E.fr F.w,h0.2]at this;exact this
set_option maxRecDepth 100000
set_option maxHeartbeats 32000000
attribute [local irreducible] wpStill
theorem zCy{W:World}{B B':Nat}{e:TypeId}{size n:Nat}{v:Value}{xs:List Value}(h:W.ownsRow B e size v n xs)(hB:B'<=B):W.ownsRow B' e size v n xs:=by
 obtain⟨h1,h2⟩:=h;refine⟨h1,?_⟩;rcases h2 with h2|⟨g,cap,cur,a1,a2,a3⟩
 .exact Or.inl h2
 .exact Or.inr ⟨g,cap,cur,a1,Nat.le_trans hB a2,a3⟩
@[irreducible] def kQ(w:World)(l:List Prt)(fr:List Int)(e:Ending)(w':World):Prop :=
 Below w.heap.size w w'/\
  if zT l=false then e=.returned (.tuple #[.slice none 0 0,.slice none 0 0,.int .i64 8])
  else if fr.length≠l.length then e=.returned (.tuple #[.slice none 0 0,.slice none 0 0,.int .i64 1])
  else ∃ov nv,e=.returned (.tuple #[ov,nv,.int .i64 0])/\w'.ownsRow w.heap.size 33 3 ov (guardZ l fr).length (zP ((guardZ l fr).map (·.1)))/\w'.ownsRow w.heap.size 3 1 nv (guardZ l fr).length (intsV ((guardZ l fr).map (·.2)))
theorem zRy(w:World)(l:List Prt)(fr:List Int)(vl vf:Value)(hL:zG w vl l)(hF:zK w vf .i64 fr)(hs:SmallL l)(hM:MaxC w) :
  Calls Tryz.prog 21 #[vl,vf] w (kQ w l fr):=by
 have CW:=Hd (zLs l (by have:=hs.1;omega) vl w hL);obtain⟨la,lc,hvl,hlc⟩:=hL.slice;obtain⟨fa,fc,hvf,hfc,_⟩:=hF.open';have HNO:Hid (zT l=false->∀w',Below w.heap.size w w'->kQ w l fr (.returned (.tuple #[.slice none 0 0,.slice none 0 0,.int .i64 8])) w'):=Hd λh w' hb=>by
  unfold kQ;rw[iP h];exact⟨hb,rfl⟩
 have HN2:Hid (zT l=true->fr.length≠l.length->∀w',Below w.heap.size w w'->kQ w l fr (.returned (.tuple #[.slice none 0 0,.slice none 0 0,.int .i64 1])) w'):=Hd λh h2 w' hb=>by
  unfold kQ;rw[iN (by rw[h];decide),iP h2];exact⟨hb,rfl⟩
 have HYES:Hid (zT l=true->fr.length=l.length->∀w' ov nv,Below w.heap.size w w'->w'.ownsRow w.heap.size 33 3 ov (guardZ l fr).length (zP ((guardZ l fr).map (·.1)))->w'.ownsRow w.heap.size 3 1 nv (guardZ l fr).length (intsV ((guardZ l fr).map (·.2)))->kQ w l fr (.returned (.tuple #[ov,nv,.int .i64 0])) w'):=Hd λh h2 w' ov nv hb ho hn=>by
  unfold kQ;rw[iN (by rw[h];decide),iN (by simp[h2])];exact⟨hb,ov,nv,rfl,ho,hn⟩
 generalize kQ w l fr=Q at *;subst hvl;subst hvf;have HL:=Hd hL;have HF:=Hd hF;have HS:=Hd hs;have HM:=Hd hM;clear hL hF hs hM;go_enter Tryz.func21,Tryz.ntmps21;go_wp2_with fail;refine CW.out.mono ?_;rintro e w1 ⟨rfl,hb1⟩;cases hw:zT l with
 |false =>
  have HZ:=Hd (HNO.out hw w1 hb1);go_wp2_with fail;exact HZ.out
 |true =>
  by_cases hn:fr.length=l.length
  .have hn1:(fr.length:Int)=(l.length:Int):=Z;go_upto_region 5 with(fail);go_upto_region 6 with(fail);have hFl:zK w (.slice fa l.length fc) .i64 fr:=by have h:=HF.out;rwa [hn]at h
   obtain⟨E,hE⟩:∃E:CpE,E=⟨l,fr,w1.heap.size,w1.heap.size+1,74,.slice la l.length lc,.slice fa l.length fc⟩:=⟨_,rfl⟩;have HCF:CpF w1 E:=by subst hE;exact⟨HL.out.below hb1,hFl.below hb1,hw,hn,HS.out,HM.out.below hb1⟩
   have HCI:CpIn w1 E [] [] 0 (.slice none 0 0) (.slice none 0 0) (w1.alloc (.cells #[.slice la l.length lc,.slice fa l.length fc,.slice none 0 0,.slice none 0 0,.int .i64 0] 74)):=by
    subst hE;exact⟨(bR _ _).alloc (nR _) _,heap_alloc_new _ _,World.ownsRow_nil _ _ _ _,World.ownsRow_nil _ _ _ _,nR _,Nat.lt_succ_self _,Ob⟩
   have CG:=Hd (zZg w1 E HCF _ _ _ HCI);have HG:Hid (E.g=w1.heap.size/\E.l=l/\E.fr=fr/\E.B=w1.heap.size+1):=Hd (by subst hE;exact⟨rfl,rfl,rfl,rfl⟩);rw[HG.out.1,HG.out.2.1,HG.out.2.2.1]at CG;clear HCF HCI hE hFl;go_wp2_with fail;refine CG.out.mono ?_;intro e w3 hp;unfold cpPost at hp;obtain⟨ov,nv,v,rfl,hc,hk⟩:=hp;have hB3:Below w.heap.size w w3:=zD hb1 hc.b;have hgB:=HG.out.1;have HSC:Hid (∀W',Below w3.heap.size w3 W'->W'.cell? ⟨w1.heap.size,2,none⟩=some ov/\W'.cell? ⟨w1.heap.size,3,none⟩=some nv):=Hd λW' hb=>by
    have h:=(hc.below hb).s.cells;rw[hgB]at h;exact⟨h.2.2.1,h.2.2.2.1⟩
   have HZ:Hid (Q (.returned (.tuple #[ov,nv,.int .i64 0])) w3.drew):=Hd (by
    have h:=hc.below (bR _ _).drew;refine HYES.out hw hn w3.drew ov nv (zD hB3 (bR _ _).drew) ?_ ?_
    .have:=zCy h.o (show w.heap.size<=E.B by have:=HG.out.2.2.2;have:=hb1.size;omega)
     simpa using this
    .have:=zCy h.f (show w.heap.size<=E.B by have:=HG.out.2.2.2;have:=hb1.size;omega)
     simpa using this)
   clear hc hk hB3 hgB CG;go_upto_region 7 with(fail)
   go_region_held3 (λW'=>W'.cell? ⟨w1.heap.size,2,none⟩=some ov/\W'.cell? ⟨w1.heap.size,3,none⟩=some nv) (exact HSC.out _ (bR _ _).drew) (fail)
   go_wp2_with fail;exact HZ.out
  .have hn1:¬(fr.length:Int)=(l.length:Int):=Z;have HZ:=Hd (HN2.out hw hn w1 hb1);go_wp2_with fail;exact HZ.out
end Go.Proofs.YtfpjdpdmgceciaaGreatDoor
namespace Go.Proofs.YtfpjdpdmgceciaaGreatDoor
set_option maxRecDepth 100000
set_option maxHeartbeats 32000000
set_option linter.all false
attribute [local irreducible] Calls
open Go.RowKit
@[irreducible] def putPost(w:World)(l:List Prt)(e:Ending)(w':World):Prop :=
 Below w.heap.size w w'/\∃ov,e=.returned (.tuple #[ov,.int .i64 0])/\w'.ownsRow w.heap.size 33 3 ov (guardZ l (List.replicate l.length 0)).length (zP ((guardZ l (List.replicate l.length 0)).map (·.1)))
theorem zXy(w:World)(l:List Prt)(vl:Value)(hL:zG w vl l)(hs:SmallL l)(hM:MaxC w)(hw:zT l=true) :
  Calls Tryz.prog 10 #[vl] w (putPost w l):=by
 have HQ:Hid (∀ov w',Below w.heap.size w w'->w'.ownsRow w.heap.size 33 3 ov (guardZ l (List.replicate l.length 0)).length (zP ((guardZ l (List.replicate l.length 0)).map (·.1)))->putPost w l (.returned (.tuple #[ov,.int .i64 0])) w'):=Hd λov w' h1 h2=>by
  unfold putPost;exact⟨h1,ov,rfl,h2⟩
 generalize putPost w l=Q at *;have hmk:=zDe l.length (by have:=hs.1;omega);obtain⟨la,lc,rfl,hlc⟩:=hL.slice;have hb0:Below w.heap.size w (w.alloc (.cells (Array.replicate l.length (Value.int .i64 0)) 3)):=(bR _ _).alloc (nR _) _;have hrow:zK (w.alloc (.cells (Array.replicate l.length (Value.int .i64 0)) 3)) (.slice (some ⟨w.heap.size,0,none⟩) l.length l.length) .i64 (List.replicate l.length 0):=by
  unfold zK;refine⟨Ob,some ⟨w.heap.size,0,none⟩,l.length,Ob,Ob,Ob,λ_=>⟨w.heap.size,0,rfl,Ob,λi hi=>?_⟩⟩;rw[Nat.zero_add,World.cell?_alloc_at _ _ _ _ rfl];rw[List.map_replicate,List.getElem?_replicate,Array.getElem?_replicate]
 have CW:=Hd (zRy _ l (List.replicate l.length 0) (.slice la l.length lc) (.slice (some ⟨w.heap.size,0,none⟩) l.length l.length) (hL.below hb0) hrow hs (hM.below hb0));have HB0:=Hd hb0;have HW:=Hd hw;have HSZ:Hid (w.heap.size<=(w.alloc (.cells (Array.replicate l.length (Value.int .i64 0)) 3)).heap.size):=Hd hb0.size;clear hL hs hM hb0 hrow hw;go_enter Tryz.func10,Tryz.ntmps10;go_wp2_with fail;refine CW.out.mono ?_;intro e w2 h2;unfold kQ at h2;rw[iN (by rw[HW.out];decide),iN Ob]at h2;obtain⟨hb2,ov,nv,rfl,ho,hn⟩:=h2;obtain⟨oa,on,oc,rfl⟩:=zI ho;obtain⟨na,nn,nc,rfl⟩:=zI hn;have HX:=Hd (HQ.out _ w2 (zD HB0.out hb2) (zCy ho HSZ.out));clear hb2 ho hn CW;go_wp2_with fail;exact HX.out
end Go.Proofs.YtfpjdpdmgceciaaGreatDoor
