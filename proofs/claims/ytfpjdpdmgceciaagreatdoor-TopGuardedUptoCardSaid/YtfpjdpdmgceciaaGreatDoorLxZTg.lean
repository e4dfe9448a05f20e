/- Layers 7 to 9 in plain Lean: the nest of a tree's printed text. -/
import Derived.Test.YtfpjdpdmgceciaaGreatDoorLxSTg
import Derived.Test.YtfpjdpdmgceciaaGreatDoorSemiTg
import Derived.Test.YtfpjdpdmgceciaaGreatDoorRnATg
import Derived.Test.YtfpjdpdmgceciaaGreatDoorCheckBTg
import Derived.Test.YtfpjdpdmgceciaaGreatDoorGtPTg
import Derived.Test.YtfpjdpdmgceciaaGreatDoorCheckCTg
import Derived.Test.YtfpjdpdmgceciaaGreatDoorCoreTg
import Derived.Test.YtfpjdpdmgceciaaGreatDoorTermTg
namespace Go.Proofs.YtfpjdpdmgceciaaGreatDoor
set_option linter.all false
attribute [local irreducible] signL zA
def chT:XTk->Nat
 | .sg [c]=>c.toNat
 |_=>0
theorem zMc{u:ByteArray}{t:Tok}{x:XTk}(h:Mt u t x):bch u t=chT x:=by
 unfold bch;cases x with
 |nm w=>rw[iN (by rw[h.1];simp)];rfl
 |lt w=>rw[iN (by have:=h.1;omega)];rfl
 |sg w =>
  obtain⟨h1,h2,h3,h4⟩:=h;match w,h3,h4 with
  |[],h3,_=>rw[iN (by simp at h3;omega)];rfl
  |[c],h3,h4=>rw[iP ⟨h1,h3⟩];exact h4 Ob
  |_::_::_,h3,_=>rw[iN (by simp at h3;omega)];rfl
def Ns(u:ByteArray)(out:List Tok)(d:Nat):Prop:=∀(T rest:List Tok)(i:Nat)(op:List Nat)(p:List Int)(m:Nat),T.drop i=out++rest->op.length+d<=100->∃p' m',nestGo u T (out++rest) i op p m=nestGo u T rest (i+out.length) op p' m'
section
variable {u:ByteArray} {a b:List Tok} {d e:Nat}
theorem Ns.nil(d:Nat):Ns u [] d:=λT rest i op p m _ _=>⟨p,m,rfl⟩
theorem Ns.app(h:Ns u a d)(h':Ns u b d):Ns u (a++b) d:=λT rest i op p m hT ho=>by
 rw[List.append_assoc]at hT ⊢;obtain⟨p1,m1,e1⟩:=h T (b++rest) i op p m hT ho;obtain⟨p2,m2,e2⟩:=h' T rest (i+a.length) op p1 m1 (by rw[<-List.drop_drop,hT,List.drop_left]) ho;exact⟨p2,m2,by rw[e1,e2,lA,Nat.add_assoc]⟩
theorem Ns.mono(h:Ns u a d)(hd:d<=e):Ns u a e:=λT rest i op p m hT ho=>h T rest i op p m hT Z
theorem Ns.plain{t:Tok}(h:closer (bch u t)=0)(h':isClose (bch u t)=false)(d:Nat):Ns u [t] d:=λT rest i op p m _ _=>⟨p.set i (-1),m,by rw[List.singleton_append,kH,iN Z,iN (by rw[h'];decide)];rfl⟩
theorem Ns.wrap{t t':Tok}(h:Ns u a d)(h1:closer (bch u t)≠0)(h2:bch u t'=closer (bch u t))(h3:isClose (bch u t')=true)(h4:closer (bch u t')=0):Ns u (t::(a++[t'])) (d+1):=λT rest i op p m hT ho=>by
 have hg:T.getD i (0,0,0)=t:=by
  have:=congrArg (λl=>l[0]?) hT;simp only[List.getElem?_drop,Nat.add_zero]at this;rw[gD,this];rfl
 have hT2:T.drop (i+1)=a++(t'::rest):=by
  rw[<-List.drop_drop,hT];simp
 obtain⟨p1,m1,e1⟩:=h T (t'::rest) (i+1) (i::op) (p.set i (-1)) (max m (op.length+1)) hT2 (by simp;omega);refine⟨((p1.set (i+1+a.length) (-1)).set (i+1+a.length) (i:Int)).set i ((i+1+a.length:Nat):Int),m1,?_⟩;rw[show t::(a++[t'])++rest=t::(a++(t'::rest))by simp,kH,iP h1,iN Z,e1,kH,iN Z,iP h3];simp only[];rw[hg,iP h2.symm]
 congr 1
 simp;omega
end
theorem Mts.nil_of{u:ByteArray}{o:List Tok}(h:Mts u o []):o=[]:=by cases o with|nil=>rfl|cons t o=>exact h.elim
theorem Mts.cons_of{u:ByteArray}{o:List Tok}{x:XTk}{X:List XTk}(h:Mts u o (x::X)):∃t o',o=t::o'/\Mt u t x/\Mts u o' X:=by
 cases o with
 |nil=>exact h.elim
 |cons t o=>exact⟨t,o,rfl,h.1,h.2⟩
theorem Mts.app_of{u:ByteArray}:∀{X Y:List XTk}{o:List Tok},Mts u o (X++Y)->∃o1 o2,o=o1++o2/\Mts u o1 X/\Mts u o2 Y
 |[],Y,o,h=>⟨[],o,rfl,trivial,h⟩
 |x::X,Y,o,h=>by
  obtain⟨t,o',rfl,h1,h2⟩:=h.cons_of;obtain⟨o1,o2,rfl,k1,k2⟩:=Mts.app_of h2;exact⟨t::o1,o2,rfl,⟨h1,k1⟩,k2⟩
theorem Mts.wrap{u:ByteArray}{c c':UInt8}{X:List XTk}{o:List Tok}(h:Mts u o (.sg [c]::(X++[.sg [c']]))){d:Nat}(hX:∀o',Mts u o' X->Ns u o' d)(hc:closer c.toNat≠0/\c'.toNat=closer c.toNat/\isClose c'.toNat=true/\closer c'.toNat=0):Ns u o (d+1):=by
 obtain⟨t,o',rfl,h1,h2⟩:=h.cons_of;obtain⟨o1,o2,rfl,k1,k2⟩:=h2.app_of;obtain⟨t',o3,rfl,q1,q2⟩:=k2.cons_of;obtain rfl:=q2.nil_of;have b1:=zMc h1;have b2:=zMc q1;simp only[chT]at b1 b2;exact(hX _ k1).wrap (by rw[b1];exact hc.1) (by rw[b1,b2];exact hc.2.1) (by rw[b2];exact hc.2.2.1) (by rw[b2];exact hc.2.2.2)
theorem Mts.pl{u:ByteArray}{x:XTk}{o:List Tok}(h:Mts u o [x])(hc:closer (chT x)=0/\isClose (chT x)=false)(d:Nat):Ns u o d:=by
 obtain⟨t,o',rfl,h1,h2⟩:=h.cons_of;obtain rfl:=h2.nil_of;have b1:=zMc h1;exact Ns.plain (by rw[b1];exact hc.1) (by rw[b1];exact hc.2) d
theorem Mts.plc{u:ByteArray}{x:XTk}{X:List XTk}{o:List Tok}(h:Mts u o (x::X))(hc:closer (chT x)=0/\isClose (chT x)=false){d:Nat}(hX:∀o',Mts u o' X->Ns u o' d):Ns u o d:=by
 obtain⟨t,o',rfl,h1,h2⟩:=h.cons_of;have b1:=zMc h1;exact Ns.app (a:=[t]) (Ns.plain (by rw[b1];exact hc.1) (by rw[b1];exact hc.2) d) (hX _ h2)
theorem Mts.ap{u:ByteArray}{X Y:List XTk}{o:List Tok}(h:Mts u o (X++Y)){d:Nat}(hX:∀o',Mts u o' X->Ns u o' d)(hY:∀o',Mts u o' Y->Ns u o' d):Ns u o d:=by
 obtain⟨o1,o2,rfl,k1,k2⟩:=h.app_of;exact(hX _ k1).app (hY _ k2)
theorem yIp:∀w∈ExT.unW,closer (chT (.sg w))=0/\isClose (chT (.sg w))=false:=V
theorem yHi{w:List UInt8}(h:∃n,n<5/\w∈[wL1,wL2,wL3,wL4,wL5].getD n []):closer (chT (.sg w))=0/\isClose (chT (.sg w))=false:=by
 obtain⟨n,hn,hw⟩:=h;have k:∀n,n<5->∀w∈[wL1,wL2,wL3,wL4,wL5].getD n [],closer (chT (.sg w))=0/\isClose (chT (.sg w))=false:=V;exact k n hn w hw
theorem ns_x{u:ByteArray}:∀z:ExT,z.wok->∀o,Mts u o z.toks->Ns u o z.dep
 | .none,_,o,h| .nil,_,o,h=>by obtain rfl:=h.nil_of;exact Ns.nil _
 | .name w,_,o,h=>Mts.pl h ⟨rfl,rfl⟩ _
 | .lit w,_,o,h=>Mts.pl h ⟨rfl,rfl⟩ _
 | .paren a,hw,o,h=>Mts.wrap h (λo' h'=>ns_x a hw o' h') V
 | .star a,hw,o,h=>Mts.plc h V (λo' h'=>ns_x a hw o' h')
 | .un w a,hw,o,h=>Mts.plc h (yIp _ hw.2) (λo' h'=>ns_x a hw.1 o' h')
 | .bin w a b,hw,o,h=>Mts.ap h (λo' h'=>(ns_x a hw.1 o' h').mono (Nat.le_max_left _ _)) λo' h'=>Mts.plc h' (yHi hw.2.2) λo2 h2=>(ns_x b hw.2.1 o2 h2).mono (Nat.le_max_right _ _)
 | .sel a w,hw,o,h=>Mts.ap h (λo' h'=>ns_x a hw o' h') λo' h'=>Mts.plc h' V λo2 h2=>Mts.pl h2 ⟨rfl,rfl⟩ _
 | .index a r,hw,o,h=>Mts.ap h (λo' h'=>(ns_x a hw.1 o' h').mono (Nat.le_max_left _ _)) λo' h'=>(Mts.wrap (d:=r.dep) h' (λo2 h2=>ns_x r hw.2 o2 h2) V).mono (Nat.le_max_right _ _)
 | .cons a r,hw,o,h=>Mts.ap h (λo' h'=>(ns_x a hw.1 o' h').mono (Nat.le_max_left _ _)) λo' h'=>by
  split at h'
  .obtain rfl:=h'.nil_of;exact Ns.nil _
  .exact Mts.plc h' V λo2 h2=>(ns_x r hw.2 o2 h2).mono (Nat.le_max_right _ _)
 | .call a r w,hw,o,h=>Mts.ap h (λo' h'=>(ns_x a hw.1 o' h').mono (Nat.le_max_left _ _)) λo' h'=>by
  refine(Mts.wrap (d:=r.dep) (X:=r.toks++(if w.size=0 then[]else[.sg w.toList])) (by rw[List.append_assoc];exact h') (λo2 h2=>Mts.ap h2 (λo3 h3=>ns_x r hw.2.1 o3 h3) λo3 h3=>?_) V).mono (Nat.le_max_right _ _);split at h3
  .obtain rfl:=h3.nil_of;exact Ns.nil _
  .rcases hw.2.2 with e|e
   .rename_i hz;rw[e]at hz;exact absurd rfl hz
   .exact Mts.pl h3 (by rw[e];decide) _
 | .slice a b c d,hw,o,h=>Mts.ap h (λo' h'=>(ns_x a hw.1 o' h').mono (Nat.le_max_left _ _)) λo' h'=>by
  refine(Mts.wrap (d:=max b.dep (max c.dep d.dep)) (X:=b.toks++.sg [58]::(c.toks++(if d.isNone then[]else .sg [58]::d.toks))) (by simpa using h') (λo2 h2=>Mts.ap h2 (λo3 h3=>(ns_x b hw.2.1 o3 h3).mono Z) λo3 h3=>Mts.plc h3 V λo4 h4=>Mts.ap h4 (λo5 h5=>(ns_x c hw.2.2.1 o5 h5).mono Z) λo5 h5=>?_) V).mono (Nat.le_max_right _ _);split at h5
  .obtain rfl:=h5.nil_of;exact Ns.nil _
  .exact Mts.plc h5 V λo6 h6=>(ns_x d hw.2.2.2 o6 h6).mono Z
theorem Mts.spell{u:ByteArray}:∀{X:List XTk}{o:List Tok},Mts u o X->o.length=X.length/\∀(T post:List Tok)(j:Nat),T.drop j=o++post->SpellT u T j X
 |[],o,h=>by obtain rfl:=h.nil_of;exact⟨rfl,λ_ _ _ _=>trivial⟩
 |x::X,o,h=>by
  obtain⟨t,o',rfl,h1,h2⟩:=h.cons_of;obtain⟨k1,k2⟩:=h2.spell;refine⟨by simp[k1],λT post j hT=>⟨?_,k2 T post (j+1) (by rw[<-List.drop_drop,hT];simp)⟩⟩;have ht:T[j]?=some t:=by
   have:=congrArg (λl=>l[0]?) hT
   simpa[List.getElem?_drop]using this
  cases x with
  |nm w=>exact⟨t,ht,h1.1,h1.2⟩
  |lt w=>exact⟨t,ht,h1.1.1,h1.1.2,h1.2⟩
  |sg w=>exact⟨t,ht,h1.1,h1.2.1⟩
namespace ExT
theorem flat_toks:∀z:ExT,z.srt≠0->z.flat.length<=4*z.toks.length+(if z.srt=2 then 1 else 0)
 |none,_=>by simp[flat,srt]
 |name _,_|lit _,_=>by simp only[flat,toks,List.length_singleton];omega
 |nil,_=>by simp[flat]
 |paren a,h=>by
  have ha:a.srt=1:=by simp only[srt]at h;split at h<;>first|assumption|omega
  have:=flat_toks a Z;rw[ha]at this;simp[flat,toks]at this ⊢;omega
 |star a,h=>by
  have ha:a.srt=1:=by simp only[srt]at h;split at h<;>first|assumption|omega
  have:=flat_toks a Z;rw[ha]at this;simp[flat,toks]at this ⊢;omega
 |un _ a,h=>by
  have ha:a.srt=1:=by simp only[srt]at h;split at h<;>first|assumption|omega
  have:=flat_toks a Z;rw[ha]at this;simp[flat,toks]at this ⊢;omega
 |sel a _,h=>by
  have ha:a.srt=1:=by simp only[srt]at h;split at h<;>first|assumption|omega
  have:=flat_toks a Z;rw[ha]at this;simp[flat,toks]at this ⊢;omega
 |bin _ a b,h=>by
  have ha:a.srt=1/\b.srt=1:=by simp only[srt]at h;split at h<;>first|assumption|omega
  have h1:=flat_toks a Z;have h2:=flat_toks b Z;rw[ha.1]at h1;rw[ha.2]at h2;simp[flat,toks]at h1 h2 ⊢;omega
 |index a r,h=>by
  have ha:a.srt=1/\r.srt=3/\1<=r.cnt:=by simp only[srt]at h;split at h<;>first|assumption|omega
  have h1:=flat_toks a Z;have h2:=flat_toks r Z;rw[ha.1]at h1;rw[ha.2.1]at h2;simp[flat,toks]at h1 h2 ⊢;omega
 |call a r w,h=>by
  have ha:a.srt=1/\r.srt=3/\(w≠bE0->1<=r.cnt):=by simp only[srt]at h;split at h<;>first|assumption|omega
  have h1:=flat_toks a Z;have h2:=flat_toks r Z;rw[ha.1]at h1;rw[ha.2.1]at h2;simp[flat,toks]at h1 h2 ⊢;omega
 |slice a b c d,h=>by
  have ha:a.srt=1/\(b.srt=1\/b.srt=2)/\(c.srt=1\/c.srt=2)/\(d.srt=1\/d.srt=2)/\(c.srt=2->d.srt=2):=by simp only[srt]at h;split at h<;>first|assumption|omega
  have h1:=flat_toks a Z;have le:∀z:ExT,z.flat.length<=4*z.toks.length+(if z.srt=2 then 1 else 0)->z.flat.length<=4*z.toks.length+1:=λz hz=>by split at hz<;>omega
  have h2:=le _ (flat_toks b Z);have h3:=le _ (flat_toks c Z);have h4:=le _ (flat_toks d Z);have h5:d.toks.length<=(if d.isNone=true then[]else XTk.sg [58]::d.toks:List XTk).length:=by
   split
   .cases d<;>first|(simp[toks];done)|(rename_i hh;cases hh)
   .simp
  rw[ha.1]at h1;simp only[flat,toks,lC,lA,lN]at h1 ⊢;simp at h1;omega
 |cons a r,h=>by
  have ha:a.srt=1/\r.srt=3:=by simp only[srt]at h;split at h<;>first|assumption|omega
  have h1:=flat_toks a Z;have h2:=flat_toks r Z;rw[ha.1]at h1;rw[ha.2]at h2;have h5:r.toks.length<=(if r.isNil=true then[]else XTk.sg [44]::r.toks:List XTk).length:=by
   split
   .cases r<;>first|(simp[toks];done)|(rename_i hh;cases hh)
   .simp
  simp only[flat,toks,lA]at h1 h2 ⊢;simp at h1 h2;omega
def szs(l:List Prt):Nat:=(l.map λp=>p.2.2.size).sum
theorem yO(p:Prt)(l:List Prt):szs (p::l)=p.2.2.size+szs l:=by simp[szs]
theorem vW(a b:List Prt):szs (a++b)=szs a+szs b:=by simp[szs]
theorem zMd:szs []=0:=rfl
theorem two3(n:Nat):(if n=3 then 0 else 2)<=2:=by split<;>omega
theorem txt_len:∀z:ExT,z.srt≠0->z.txt.length+(if z.srt=3 then 0 else 2)<=szs z.flat+4*z.flat.length
 |none,_=>by have:=two3 (srt none);simp[flat,txt,yO,zMd,bE0];omega
 |name w,_|lit w,_=>by simp[flat,txt,yO,zMd,wsz,srt]
 |nil,_=>by simp[flat,txt,srt]
 |paren a,h=>by
  have ha:a.srt=1:=by simp only[srt]at h;split at h<;>first|assumption|omega
  have:=txt_len a Z;rw[iN Z]at this;refine Nat.le_trans (Nat.add_le_add_left (two3 _) _) ?_;simp only[flat,txt,yO,lC,lA,lN];omega
 |star a,h=>by
  have ha:a.srt=1:=by simp only[srt]at h;split at h<;>first|assumption|omega
  have:=txt_len a Z;rw[iN Z]at this;refine Nat.le_trans (Nat.add_le_add_left (two3 _) _) ?_;simp only[flat,txt,yO,lC,lA,lN];omega
 |un w a,h=>by
  have ha:a.srt=1:=by simp only[srt]at h;split at h<;>first|assumption|omega
  have:=txt_len a Z;rw[iN Z]at this;have h5:(if a.isUn=true then[32]else[]:List UInt8).length<=1:=by split<;>simp
  refine Nat.le_trans (Nat.add_le_add_left (two3 _) _) ?_;simp only[flat,txt,yO,lC,lA,wsz];omega
 |sel a w,h=>by
  have ha:a.srt=1:=by simp only[srt]at h;split at h<;>first|assumption|omega
  have:=txt_len a Z;rw[iN Z]at this;have h5:(if a.isLit=true then[32]else[]:List UInt8).length<=1:=by split<;>simp
  refine Nat.le_trans (Nat.add_le_add_left (two3 _) _) ?_;simp only[flat,txt,yO,vW,zMd,lC,lA,lN,wsz];omega
 |bin w a b,h=>by
  have ha:a.srt=1/\b.srt=1:=by simp only[srt]at h;split at h<;>first|assumption|omega
  have h1:=txt_len a Z;have h2:=txt_len b Z;rw[iN Z]at h1 h2;refine Nat.le_trans (Nat.add_le_add_left (two3 _) _) ?_;simp only[flat,txt,yO,vW,lC,lA,wsz];omega
 |index a r,h=>by
  have ha:a.srt=1/\r.srt=3/\1<=r.cnt:=by simp only[srt]at h;split at h<;>first|assumption|omega
  have h1:=txt_len a Z;have h2:=txt_len r Z;rw[iN Z]at h1;rw[iP ha.2.1]at h2;refine Nat.le_trans (Nat.add_le_add_left (two3 _) _) ?_;simp only[flat,txt,yO,vW,lC,lA,lN];omega
 |call a r w,h=>by
  have ha:a.srt=1/\r.srt=3/\(w≠bE0->1<=r.cnt):=by simp only[srt]at h;split at h<;>first|assumption|omega
  have h1:=txt_len a Z;have h2:=txt_len r Z;rw[iN Z]at h1;rw[iP ha.2.1]at h2;have h5:(if w.size=0 then[]else 32::w.data.toList:List UInt8).length<=1+w.size:=by split<;>simp[wsz]<;>omega
  refine Nat.le_trans (Nat.add_le_add_left (two3 _) _) ?_;simp only[flat,txt,yO,vW,lC,lA,lN];omega
 |slice a b c d,h=>by
  have ha:a.srt=1/\(b.srt=1\/b.srt=2)/\(c.srt=1\/c.srt=2)/\(d.srt=1\/d.srt=2)/\(c.srt=2->d.srt=2):=by simp only[srt]at h;split at h<;>first|assumption|omega
  have h1:=txt_len a Z;have h2:=txt_len b Z;have h3:=txt_len c Z;have h4:=txt_len d Z;rw[iN Z]at h1 h2 h3 h4;have h5:(if d.txt=[]then[]else 58::d.txt:List UInt8).length<=1+d.txt.length:=by split<;>simp<;>omega
  refine Nat.le_trans (Nat.add_le_add_left (two3 _) _) ?_;simp only[flat,txt,yO,vW,lC,lA,lN];omega
 |cons a r,h=>by
  have ha:a.srt=1/\r.srt=3:=by simp only[srt]at h;split at h<;>first|assumption|omega
  have h1:=txt_len a Z;have h2:=txt_len r Z;rw[iN Z]at h1;rw[iP ha.2]at h2;have h5:(if r.isNil=true then[]else 44::32::r.txt:List UInt8).length<=2+r.txt.length:=by split<;>simp<;>omega
  rw[iP (show(cons a r).srt=3 by simp[srt,ha])];simp only[flat,txt,vW,lA];omega
end ExT
theorem yHj{z:ExT}(hz:z.srt=1)(hw:z.wlx)(ho:z.wok)(hg:z.gok)(hd:z.dep<=100)(hl:z.flat.length<=10000)(hs:z.txt.length<=65536):TX ⟨z.txt.toArray⟩ z:=by
 generalize hu:(⟨z.txt.toArray⟩:ByteArray)=u;have hud:u.data.toList=z.txt:=by subst hu;rfl
 have hsz:u.size=z.txt.length:=by rw[size_data,hud]
 have L:=lx_x u z Z hw ho hg 0 [] (by rw[List.drop_zero,List.append_nil];exact hud) (λb hb=>by cases hb);rw[Nat.zero_add,hz,<-hsz]at L;have hend:=gN (s:=u) (i:=u.size) Z;obtain⟨c1,L⟩:=L;obtain⟨out,en,a1,a2,a3,a4⟩:=L none;rw[hend]at a1 a2;have hc:=c1 (by rw[zCk Z];omega);have hscan:scanAll u=((alls u 0).1,0,0):=by
  unfold scanAll clean;rw[iN Z,iN Z,a2]
 obtain⟨e,he⟩:∃e,en=some e:=by cases en with|none=>cases a4 rfl|some e=>exact⟨e,rfl⟩
 subst he;have hsemi:semiAll u=(out++[(9,e,e)],0,0):=by
  rw[fI u (by rw[hscan];exact⟨rfl,rfl⟩),hscan];rw[a1];rfl
 obtain⟨m1,m2⟩:=a3.spell;obtain⟨p,m,hn⟩:=ns_x z ho out a3 (out++[(9,e,e)]) [(9,e,e)] 0 [] (List.replicate (out++[(9,e,e)]).length 0) 0 rfl (by simpa using hd);have hn2:nestGo u (out++[(9,e,e)]) (out++[(9,e,e)]) 0 [] (List.replicate (out++[(9,e,e)]).length 0) 0=.ok (p.set (0+out.length) (-1),m):=by
  rw[hn,kH];have hb:bch u (9,e,e)=0:=by unfold bch;rw[iN Ob]
  rw[hb,iN V,iN V];rfl
 have hnest:nestAll u=(out++[(9,e,e)],p.set (0+out.length) (-1),(m:Int),0,0):=by
  unfold nestAll;rw[hsemi,iP ⟨rfl,rfl⟩];simp only[];rw[hn2]
 refine⟨by rw[hnest],hz,ho,hg,hl,?_,?_,?_,?_⟩
 .have:=ExT.flat_toks z Z;rw[hz]at this;simp at this;omega
 .rw[hnest];exact m2 _ _ 0 rfl
 .rw[hnest];simp[m1]
 .rw[hnest];exact⟨(9,e,e),by simp[<-m1],rfl⟩
end Go.Proofs.YtfpjdpdmgceciaaGreatDoor
namespace Go.Proofs.YtfpjdpdmgceciaaGreatDoor
set_option maxRecDepth 100000
set_option maxHeartbeats 32000000
set_option linter.all false
attribute [local irreducible] Calls
attribute [local irreducible] wpStill
open Go.RowKit
structure FitX(x:ExT):Prop where
 r:x.srt=1
 c:checkB x.flat=true
 l:x.flat.length<=10000
 w:∀p∈x.flat,p.1<256/\p.2.2.size<=1000000
 t:x.txt.length<=65536
 n:TX ⟨x.txt.toArray⟩ x
theorem yFq{x:ExT}(hx:FitX x)(v:Value)(w:World)(hT:Tabs w)(hM:MaxC w)(hr:zG w v x.flat):Calls Tryz.prog 22 #[v] w (WrQ x.txt w):=by
 have HQ:Hid (∀W',Below w.heap.size w W'->WrQ x.txt w (.returned (.tuple #[.string ⟨x.txt.toArray⟩,.int .i64 0])) W'):=Hd λW' h=>by unfold WrQ;exact⟨rfl,h⟩
 generalize WrQ x.txt w=Q at *;have C1:=Hd (zRv x.flat (by have:=hx.l;omega) (λp hp=>⟨(hx.w p hp).1,by have:=(hx.w p hp).2;omega⟩) v w hT hM hr);rw[hx.c]at C1;have C2:=Hd (λW (hb:Below w.heap.size w W)=>yFp hx.r (by have:=hx.l;omega) (λp hp=>(hx.w p hp).2) hx.t v W (hr.below hb));generalize x.txt=T at *;obtain⟨va,vc,rfl,hvc⟩:=hr.slice;clear hr hx hT hM;go_enter Tryz.func22,Tryz.ntmps22;go_wp2_with fail;refine C1.out.mono ?_;rintro e w1 ⟨rfl,hb1⟩;have C3:=Hd (C2.out w1 hb1);have HB1:=Hd hb1;clear hb1 C1 C2;simp only[if_true];go_wp2_with fail;refine C3.out.mono ?_;intro e w2 h2;unfold WrQ at h2;obtain⟨rfl,hb2⟩:=h2;have HX:=Hd (HQ.out _ (zD HB1.out hb2));clear hb2 C3;go_wp2_with fail;exact HX.out
theorem yFr{x:ExT}(hx:FitX x)(v:Value)(w:World)(hT:Tabs w)(hM:MaxC w)(hr:zG w v x.flat):Calls Tryz.prog 11 #[.int .u8 2,v] w λe w'=>e=.returned (.bool true)/\Below w.heap.size w w':=by
 have HQ:Hid (∀W',Below w.heap.size w W'->(λ(e:Ending) w'=>e=.returned (.bool true)/\Below w.heap.size w w') (.returned (.bool true)) W'):=Hd λW' h=>⟨rfl,h⟩
 generalize(λ(e:Ending) w'=>e=.returned (.bool true)/\Below w.heap.size w w')=Q at *;have C1:=Hd (yFq hx v w hT hM hr);have C2:=Hd (λW (hb:Below w.heap.size w W)=>zDt ⟨x.txt.toArray⟩ (by have:=hx.t;show x.txt.length<=_;omega) 2 rfl W (hT.below hb) (hM.below hb) x);have HR:=Hd hr;have HX:=Hd hx;obtain⟨va,vc,rfl,hvc⟩:=hr.slice;clear hr hx hT hM;go_enter Tryz.func11,Tryz.ntmps11;go_wp2_with fail;refine C1.out.mono ?_;intro e w1 h1;unfold WrQ at h1;obtain⟨rfl,hb1⟩:=h1;have C3:=Hd (C2.out w1 hb1);have HB1:=Hd hb1;clear hb1 C1 C2;go_wp2_with fail;refine C3.out.mono ?_;intro e w2 h2;unfold TermQ at h2;obtain⟨hb2,v2,l,f,a,rfl,hr2,-,hx2,-⟩:=h2;obtain⟨rfl,rfl,rfl⟩:=hx2 ⟨HX.out.n,rfl⟩;obtain⟨va2,vc2,rfl,hvc2⟩:=hr2.slice;have HB2:=Hd ((zD HB1.out hb2).alloc (by have:=(zD HB1.out hb2).size;omega) (.cells #[.int .i64 0,.int .i64 0] 25));have C4:=Hd (zYp _ _ _ _ (by have:=HX.out.l;omega) (by have:=HX.out.l;omega) _ (HR.out.below HB2.out) (hr2.below ((bR _ _).alloc (nR _) (.cells #[.int .i64 0,.int .i64 0] 25))));clear hb2 hr2 C3 hx2;go_wp2_with fail;refine C4.out.mono ?_;rintro e w3 ⟨z,rfl,hz,hb3⟩;obtain rfl:z=true:=by
  cases z with
  |true=>rfl
  |false=>exact absurd (hz.2 rfl) V
 have HY:=Hd (HQ.out _ (zD HB2.out hb3));clear hb3 C4 hz;go_wp2_with fail;exact HY.out
end Go.Proofs.YtfpjdpdmgceciaaGreatDoor
namespace Go.Proofs.YtfpjdpdmgceciaaGreatDoor
set_option linter.all false
attribute [local irreducible] signL zA
theorem zOb{s:ByteArray}(h:(nestAll s).2.2.2=(0,0)){t:Tok}(ht:t∈(nestAll s).1){K:Int->Prop}(hK:K t.1)(h9:t.1≠9):LexW (s.extract t.2.1 t.2.2) K:=by
 have hs:(semiAll s).2.1=0/\(semiAll s).2.2=0/\t∈(semiAll s).1:=by
  unfold nestAll at h ht;by_cases hc:(semiAll s).2.1=0/\(semiAll s).2.2=0
  .rw[iP hc]at ht;refine⟨hc.1,hc.2,?_⟩;cases hn:nestGo s (semiAll s).1 (semiAll s).1 0 [] (List.replicate (semiAll s).1.length 0) 0 with
   |ok q=>rw[hn]at ht;exact ht
   |error q=>rw[hn]at ht;cases ht
  .rw[iN hc]at ht;cases ht
 have hsc:(scanAll s).2.1=0/\(scanAll s).2.2=0:=by
  have h1:=hs.1;have h2:=hs.2.1;unfold semiAll at h1 h2;by_cases hc:(scanAll s).2.1=0/\(scanAll s).2.2=0
  .exact hc
  .rw[iN hc]at h1 h2;exact⟨h1,h2⟩
 have hm:=hs.2.2;rw[fI s hsc]at hm;rcases fK s _ _ t hm with hm|⟨hm,_⟩
 .exact absurd hm h9
 have e:¬65536<s.size:=λg=>by have:=hsc.1;unfold scanAll at this;rw[iP g]at this;cases this
 have hcl:¬0<=clean s:=λg=>by have:=hsc.1;unfold scanAll at this;rw[iN e,iP g]at this;cases this
 have hal:(scanAll s).1=(alls s 0).1:=by
  have:=hsc.1;unfold scanAll at this ⊢;rw[iN e,iN hcl]at this ⊢;cases ha:(alls s 0).2 with
  |none=>rfl
  |some i=>rw[ha]at this;cases this
 rw[hal]at hm;obtain⟨l1,l2,l3⟩:=zRq s 0 (by unfold clean at hcl;omega) t hm;obtain⟨_,a2,a3,_⟩:=zNx s 0 t hm;have hz:(s.extract t.2.1 t.2.2).size=t.2.2-t.2.1:=by rw[ByteArray.size_extract];omega
 refine⟨s,t.2.1,t.1,hK,Z,Z,by rw[hz,show t.2.1+(t.2.2-t.2.1)=t.2.2 by omega],by rw[hz,show t.2.1+(t.2.2-t.2.1)=t.2.2 by omega];exact l1,l2,by rw[hz,show t.2.1+(t.2.2-t.2.1)=t.2.2 by omega];exact l3⟩
theorem zUh{s:ByteArray}{i:Nat}(h:3<=(begun s i).1):(begun s i).2.2.2=0:=by
 revert h;unfold begun;split
 .simp
 .split
  .unfold begunAt;split
   .cases raw s ((i:Int).toNat+1)<;>simp
   .split
    .cases body s ((i:Int).toNat+1)<;>simp
    .cases single s ((i:Int).toNat+1)<;>simp
  .simp
theorem yIk{w:ByteArray}(hw:LtW w):sptB 27 w=true:=by
 obtain⟨s,a,k,hk,h0,h1,h2,h3,_,_⟩:=hw;have H:SameE s a w 0 w.size:=⟨h1,Z,by rw[h2,Nat.zero_add];exact ByteArray.extract_zero_size⟩;have hl:=(yGk H h0 (Or.inl Z) (by rw[h3];exact Or.inr hk) (λ_ h=>Z) (by rw[h3])).1;rw[h3,Nat.zero_add]at hl;simp only[]at hl;have hz:w.extract 0 w.size=w:=ByteArray.extract_zero_size;unfold sptB;rw[iN V,iP rfl,Bool.or_eq_true,decide_eq_true_eq,decide_eq_true_eq];unfold lex at hl;split at hl
 .simp at hl;omega
 split at hl
 .simp at hl;omega
 split at hl
 .simp at hl;omega
 split at hl
 .cases hb:blockTo w (0+2)<;>rw[hb]at hl<;>simp at hl<;>omega
 split at hl
 .split at hl<;>(simp at hl;omega)
 split at hl
 .simp at hl;omega
 split at hl
 .rename_i hn;right;unfold numScan at hn hl;split at hl
  .rename_i hc;rw[iP hc]at hn;split at hl
   .rename_i hq;simp only[Int.toNat_natCast,Prod.mk.injEq]at hl hq;have e:numEnd w 0=w.size:=Z;rw[e,hz]at hq;exact hq
   .simp at hl;omega
  .rename_i hc;rw[iN hc]at hn;exact absurd rfl hn
 split at hl
 .left;simp only[Prod.mk.injEq]at hl;have hb:=zUh (s:=w) (i:=0) (by rw[hl.1];exact hk.1);unfold value;rw[iP ⟨hb,hl.2⟩]
 .split at hl<;>(simp at hl;omega)
def GW(p:Prt):Prop:=p.1<256/\(p.1=26->NmW p.2.2)/\(p.1=27->LtW p.2.2)/\partB p=true/\p.2.2.size<=400
theorem zUi:∀k,k<69->∀w∈wordsT k,w.length<=400:=by
 decide +kernel
theorem GW.of{s:ByteArray}(hs:s.size<=400)(h:(nestAll s).2.2.2=(0,0)){p:Prt}(hp:p.1<256)(hl:LW s (nestAll s).1 p)(hc:partC p=true):GW p:=by
 have hb:partB p=true:=by
  unfold partC at hc;unfold partB;simp only[Bool.and_eq_true,Bool.or_eq_true,decide_eq_true_eq]at hc ⊢;refine⟨hc.1,hc.2.1,hc.2.2.1,?_⟩;rcases hc.2.2.2 with e|e
  .obtain⟨t,h1,h2,h3⟩:=hl.2 e;rw[e,<-h3];exact yIk (zOb h h1 h2 Z)
  .exact e
 refine⟨hp,λe=>?_,λe=>?_,hb,?_⟩
 .obtain⟨t,h1,h2,h3⟩:=hl.1 e;rw[<-h3];exact zOb h h1 h2 Z
 .obtain⟨t,h1,h2,h3⟩:=hl.2 e;rw[<-h3];exact zOb h h1 h2 Z
 .by_cases e:p.1=26
  .obtain⟨t,h1,h2,h3⟩:=hl.1 e;have:=zDc s t.2.1 t.2.2;rw[<-h3];omega
  .by_cases e':p.1=27
   .obtain⟨t,h1,h2,h3⟩:=hl.2 e';have:=zDc s t.2.1 t.2.2;rw[<-h3];omega
   .unfold partB at hb;simp only[Bool.and_eq_true,decide_eq_true_eq]at hb;have hx:=hb.2.2.2;rw[jY _ e e']at hx;simp only[Bool.or_eq_true,Bool.and_eq_true,decide_eq_true_eq]at hx;rcases hx with⟨hx,_⟩|hx
    .rw[List.isEmpty_iff]at hx;rw[size_data,<-ByteArray.toList_eq,hx];simp
    .rw[size_data,<-ByteArray.toList_eq];exact zUi _ Z _ hx
theorem zFg{p:Prt}(hb:partB p=true)(h:p.1≠26/\p.1≠27):(p.2.2.toList=[]/\noneT p.1=true)\/p.2.2.toList∈wordsT p.1:=by
 unfold partB at hb;simp only[Bool.and_eq_true,decide_eq_true_eq]at hb;have hx:=hb.2.2.2;rw[jY _ h.1 h.2]at hx
 simpa[List.isEmpty_iff]using hx
namespace ExT
section
variable {a b c d r:ExT} {w:ByteArray}
theorem gw_x:∀x:ExT,x.srt≠0->(∀p∈x.flat,GW p)->x.wlx/\x.wok
 |none,_,_|nil,_,_=>⟨trivial,trivial⟩
 |name w,_,h=>⟨(h _ (.head _)).2.1 rfl,trivial⟩
 |lit w,_,h=>⟨(h _ (.head _)).2.2.1 rfl,trivial⟩
 |paren a,h0,h=>by
  have ha:a.srt=1:=by simp only[srt]at h0;split at h0<;>first|assumption|omega
  exact gw_x a Z λp hp=>h p (.tail _ hp)
 |star a,h0,h=>by
  have ha:a.srt=1:=by simp only[srt]at h0;split at h0<;>first|assumption|omega
  exact gw_x a Z λp hp=>h p (.tail _ hp)
 |un w a,h0,h=>by
  have ha:a.srt=1:=by simp only[srt]at h0;split at h0<;>first|assumption|omega
  obtain⟨h1,h2⟩:=gw_x a Z λp hp=>h p (.tail _ hp)
  refine⟨h1,h2,?_⟩;rcases zFg (h _ (.head _)).2.2.2.1 ⟨Ob,Ob⟩with⟨_,k⟩|k
  .exact absurd k (by simp[noneT])
  .exact k
 |bin w a b,h0,h=>by
  have ha:a.srt=1/\b.srt=1:=by simp only[srt]at h0;split at h0<;>first|assumption|omega
  obtain⟨h1,h2⟩:=gw_x a Z λp hp=>h p (.tail _ (List.mem_append_left _ hp))
  obtain⟨k1,k2⟩:=gw_x b Z λp hp=>h p (.tail _ (List.mem_append_right _ hp))
  refine⟨⟨h1,k1⟩,h2,k2,?_⟩;have hb:∀v∈wBin,∃i,i<5/\v∈[wL1,wL2,wL3,wL4,wL5].getD i []:=V;rcases zFg (h _ (.head _)).2.2.2.1 ⟨Ob,Ob⟩with⟨_,k⟩|k
  .exact absurd k (by simp[noneT])
  .exact hb _ k
 |sel a w,h0,h=>by
  have ha:a.srt=1:=by simp only[srt]at h0;split at h0<;>first|assumption|omega
  obtain⟨h1,h2⟩:=gw_x a Z λp hp=>h p (.tail _ (List.mem_append_left _ hp))
  exact⟨⟨h1,(h (26,0,w) (by simp[flat])).2.1 rfl⟩,h2⟩
 |index a r,h0,h=>by
  have ha:a.srt=1/\r.srt=3/\1<=r.cnt:=by simp only[srt]at h0;split at h0<;>first|assumption|omega
  obtain⟨h1,h2⟩:=gw_x a Z λp hp=>h p (.tail _ (List.mem_append_left _ hp))
  obtain⟨k1,k2⟩:=gw_x r Z λp hp=>h p (.tail _ (List.mem_append_right _ (.tail _ hp)))
  exact⟨⟨h1,k1⟩,h2,k2⟩
 |call a r w,h0,h=>by
  have ha:a.srt=1/\r.srt=3/\(w≠bE0->1<=r.cnt):=by simp only[srt]at h0;split at h0<;>first|assumption|omega
  obtain⟨h1,h2⟩:=gw_x a Z λp hp=>h p (.tail _ (List.mem_append_left _ hp))
  obtain⟨k1,k2⟩:=gw_x r Z λp hp=>h p (.tail _ (List.mem_append_right _ (.tail _ hp)))
  refine⟨⟨h1,k1⟩,h2,k2,?_⟩;rcases zFg (h _ (.head _)).2.2.2.1 ⟨Ob,Ob⟩with⟨k,_⟩|k
  .exact Or.inl (zNf (k.trans (by rw[ByteArray.toList_eq])))
  .exact Or.inr (by simpa[wordsT]using k)
 |slice a b c d,h0,h=>by
  have ha:a.srt=1/\(b.srt=1\/b.srt=2)/\(c.srt=1\/c.srt=2)/\(d.srt=1\/d.srt=2)/\(c.srt=2->d.srt=2):=by simp only[srt]at h0;split at h0<;>first|assumption|omega
  obtain⟨h1,h2⟩:=gw_x a Z λp hp=>h p (by simp[flat,hp])
  obtain⟨k1,k2⟩:=gw_x b Z λp hp=>h p (by simp[flat,hp])
  obtain⟨q1,q2⟩:=gw_x c Z λp hp=>h p (by simp[flat,hp])
  obtain⟨r1,r2⟩:=gw_x d Z λp hp=>h p (by simp[flat,hp])
  exact⟨⟨h1,k1,q1,r1⟩,h2,k2,q2,r2⟩
 |cons a r,h0,h=>by
  have ha:a.srt=1/\r.srt=3:=by simp only[srt]at h0;split at h0<;>first|assumption|omega
  obtain⟨h1,h2⟩:=gw_x a Z λp hp=>h p (List.mem_append_left _ hp)
  obtain⟨k1,k2⟩:=gw_x r Z λp hp=>h p (List.mem_append_right _ hp)
  exact⟨⟨h1,k1⟩,h2,k2⟩
theorem zDg(m:Nat)(x y:ExT):szs (br m x y).flat=szs y.flat:=by
 unfold br;split
 .simp[flat,yO];rfl
 .rfl
theorem szs_grd:∀x:ExT,szs x.grd.flat=szs x.flat
 |none|nil|name _|lit _=>rfl
 |paren a=>by simp only[grd,flat,yO,szs_grd a]
 |star a=>by simp only[grd,flat,yO,zDg,szs_grd a]
 |un w a=>by simp only[grd,flat,yO,zDg,szs_grd a]
 |bin w a b=>by simp only[grd,flat,yO,vW,zDg,szs_grd a,szs_grd b]
 |sel a w=>by simp only[grd,flat,yO,vW,zDg,szs_grd a]
 |index a r=>by simp only[grd,flat,yO,vW,zDg,szs_grd a,szs_grd r]
 |call a r w=>by simp only[grd,flat,yO,vW,zDg,szs_grd a,szs_grd r]
 |slice a b c d=>by simp only[grd,flat,yO,vW,zDg,szs_grd a,szs_grd b,szs_grd c,szs_grd d]
 |cons a r=>by simp only[grd,flat,vW,szs_grd a,szs_grd r]
theorem szs_le{n:Nat}:∀{l:List Prt},(∀p∈l,p.2.2.size<=n)->szs l<=l.length*n
 |[],_=>Nat.zero_le _
 |p::l,h=>by
  have h1:=h p (.head _);have h2:=szs_le (l:=l) λq hq=>h q (.tail _ hq)
  rw[yO,lC,Nat.add_mul,Nat.one_mul];omega
end
end ExT
theorem yGg{z:ExT}(hz:z.srt=1)(hg:∀p∈z.flat,GW p)(hl:z.flat.length<=97)(hv:z.grd.flat.length<=500):FitX z.grd:=by
 have hs:z.grd.srt=1:=by rw[ExT.grd_srt];exact hz
 have hG:∀p∈z.grd.flat,GW p:=λp hp=>by
  rw[<-ExT.guard_x (fr:=[]) hz]at hp;obtain⟨q,hq,rfl⟩:=List.mem_map.1 hp;rcases zWc _ _ hq with rfl|⟨i,hi,rfl⟩
  .exact⟨V,(by intro h;cases h),(by intro h;cases h),by decide +kernel,V⟩
  .rw[zZp _ _ hi];exact hg _ (gM hi)
 obtain⟨w1,w2⟩:=ExT.gw_x z.grd Z hG;have hd:=ExT.grd_dep z Z;have ht:=ExT.txt_len z.grd Z;have hz2:=ExT.szs_le (n:=400) λp hp=>(hg p hp).2.2.2.2
 rw[hs,ExT.szs_grd]at ht;have ht2:z.grd.txt.length<=65536:=by simp at ht;omega
 refine⟨hs,?_,Z,λp hp=>⟨(hG p hp).1,by have:=(hG p hp).2.2.2.2;omega⟩,ht2,yHj hs w1 w2 (ExT.grd_gok z) Z Z ht2⟩;unfold checkB;rw[Bool.and_eq_true];refine⟨?_,by rw[List.all_eq_true];exactλp hp=>(hG p hp).2.2.2.1⟩;have hr:=ExT.rows_x z.grd Z xJ;rw[ExT.one_sizes (Or.inl hs),List.append_nil,List.append_nil]at hr;exact xK.2 hr
end Go.Proofs.YtfpjdpdmgceciaaGreatDoor
namespace Go.Proofs.YtfpjdpdmgceciaaGreatDoor
set_option maxRecDepth 100000
set_option maxHeartbeats 32000000
set_option linter.all false
attribute [local irreducible] Calls
attribute [local irreducible] wpStill
open Go.RowKit
@[irreducible] def BoolQ(P:Bool->Prop)(w:World)(e:Ending)(w':World):Prop:=∃z,e=.returned (.bool z)/\P z/\Below w.heap.size w w'
theorem zYr(l:List Prt)(hl:l.length<=1000000)(hc:zT l=true/\∀p∈l,partC p=true)(v:Value)(i:Nat)(h0:0<i)(hi:i<l.length)(w:World)(hr:zG w v l):Calls Tryz.prog 8 #[v,.int .i64 (i:Int)] w (BoolQ (λz=>SelAt l i->z=true) w):=by
 have HQ:Hid (∀z w',(SelAt l i->z=true)->Below w.heap.size w w'->BoolQ (λz=>SelAt l i->z=true) w (.returned (.bool z)) w'):=Hd λz w' h hb=>by unfold BoolQ;exact⟨z,rfl,h,hb⟩
 generalize BoolQ (λz=>SelAt l i->z=true) w=Q at *;have hus:=zZ hc.1;have C1:=Hd (zRe l Z _ hus v i hi w hr);obtain⟨u,hu⟩:∃u:Nat,upI l i i=(u:Int):=⟨(upI l i i).toNat,by have:=zOa hc.1 hi i h0;omega⟩;have hui:u<l.length:=by have:=(zSd _ hu).1;omega
 rw[hu]at C1;have C2:=Hd (zUe l Z _ hus v u hui w hr);have HS:Hid (SelAt l i->(zO l u).1=29/\(kidsB l u)[1]?=some i):=Hd λh=>by
  obtain⟨s,e1,e2,e3,e4⟩:=h.up hc.1;unfold upN at e1;obtain rfl:s=u:=Z;exact⟨e3,e4⟩
 have HA:Hid ((l[u]).1=29->(kidsB l u).length=2):=Hd λe=>by
  obtain⟨q,k1,_,k3,_⟩:=zBw hus hui;have hp:=hc.2 _ (gM hui);unfold partC at hp;rw[e]at hp;simp[arL]at hp;omega
 obtain⟨va,vc,rfl,hvc⟩:=hr.slice;obtain⟨b,off,rfl,_,_,_,hcell⟩:=hr.at (bR _ _) (show 0<l.length by omega);obtain⟨c0,-,-⟩:=hcell u hui;have hpt:(zO l u).1=(l[u]).1:=by unfold zO;rw[gD,gE hui];rfl
 rw[hpt]at HS;have hu0:(0:Int)<=u:=Z;have hul:(u:Int)<l.length:=Z;have huc:(u:Int)<vc:=Z;clear hr hc hus hcell hpt;generalize(l[u]).1=κ at *;go_enter Tryz.func8,Tryz.ntmps8;go_wp2_with fail;refine C1.out.mono ?_;rintro e w1 ⟨rfl,rfl⟩;clear C1;by_cases hk:κ=29
 .subst hk;go_wp2_with fail;refine C2.out.mono ?_;intro e w2 h2;unfold kidsPost at h2;obtain⟨v2,rfl,hb2,hr2⟩:=h2;obtain⟨a2,c2,rfl,hc2,ho2⟩:=hr2.open';have h2l:((kidsB l u).map λ(x:Nat)=>(x:Int)).length=2:=by rw[List.length_map];first|exact HA.out rfl|exact HA.out trivial
  obtain⟨b2,o2,rfl,_,hcell2⟩:=ho2 Z;have d1:=hcell2 1 Z;rw[h2l]at hc2 ⊢;obtain⟨y,hy⟩:∃y:Int,((kidsB l u).map λ(x:Nat)=>(x:Int))[1]'Z=y:=⟨_,rfl⟩;rw[hy]at d1;have hone:(1:Int)<c2:=Z;have HX:=Hd (HQ.out (y==(i:Int)) _ (λh=>by
   obtain⟨_,e4⟩:=HS.out h;rw[<-hy,beq_iff_eq,List.getElem_map];rw[gE (by rw[List.length_map]at h2l;omega)]at e4;rw[Option.some.inj e4]) hb2)
  clear hb2 hr2 ho2 hcell2 h2l hy C2;go_wp2_with fail;exact HX.out
 .have hk':¬(κ:Int)=29:=Z;have HX:=Hd (HQ.out false _ (λh=>absurd (HS.out h).1 hk) (bR _ _));go_wp2_with fail;exact HX.out
def SimpleP(l:List Prt)(z:Bool):Prop:=z=true->(zT l=true/\∀p∈l,partC p=true)/\simL l/\l.length<50
def smRel(l:List Prt)(w:World)(i:Value)(wr:World):Prop:=∃k:Nat,i=.int .i64 (k:Int)/\k<=l.length/\(∀j (hj:j<l.length),j<k->simK (l[j]).1=true)/\Below w.heap.size w wr
theorem zJo(l:List Prt)(hl:l.length<=1000000)(hf:∀p∈l,p.1<256/\p.2.2.size<=1000000)(v:Value)(w:World)(hr:zG w v l):Calls Tryz.prog 6 #[v] w (BoolQ (SimpleP l) w):=by
 have HQ:Hid (∀z w',SimpleP l z->Below w.heap.size w w'->BoolQ (SimpleP l) w (.returned (.bool z)) w'):=Hd λz w' h hb=>by unfold BoolQ;exact⟨z,rfl,h,hb⟩
 generalize BoolQ (SimpleP l) w=Q at *;have C1:=Hd (zOj l Z (λp hp=>⟨(hf p hp).1,by have:=(hf p hp).2;omega⟩) v w hr);have HR:=Hd hr;obtain⟨va,vc,rfl,hvc⟩:=hr.slice;clear hr hf;go_enter Tryz.func6,Tryz.ntmps6;go_wp2_with fail;refine C1.out.mono ?_;rintro e w1 ⟨x,rfl,hx,hb1⟩;have HB1:=Hd hb1;clear hb1 C1;by_cases hc:x=0
 case neg =>
  have HX:=Hd (HQ.out false _ (λh=>by cases h) HB1.out);clear hx;go_wp2_with fail;exact HX.out
 case pos =>
  have HC:=Hd (hx hc);subst hc;clear hx;go_wp2_with fail;go_loopw [3] (λi wr=>smRel l w i wr) (λi _=>l.length-(intOf i).toNat)
  case atStart=>exact⟨0,rfl,Nat.zero_le _,λj _ h=>Z,HB1.out⟩
  case round =>
   obtain⟨k,rfl,hk,hyes,hb⟩:=hrel;have HB:=Hd hb;have HY:=Hd hyes;clear hb hyes;by_cases hlt:k<l.length
   .have hlt':(k:Int)<l.length:=Z;obtain⟨b,off,rfl,_,_,_,hcell⟩:=HR.out.at HB.out (show 0<l.length by omega);obtain⟨c0,-,-⟩:=hcell k hlt;have hk0:(0:Int)<=k:=Z;have hkc:(k:Int)<vc:=Z;have hwk:IntKind.i64.wrap ((k:Int)+1)=((k+1:Nat):Int):=wI Z;have HN:Hid (simK (l[k]).1=true->smRel l w (.int .i64 ((k+1:Nat):Int)) wr/\l.length-(k+1)<l.length-k):=Hd λh=>⟨⟨k+1,rfl,hlt,λj hj hjk=>by
     by_cases e:j=k
     .subst e;exact h
     .exact HY.out j hj Z,HB.out⟩,Z⟩
    clear hcell;generalize(l[k]).1=κ at *;by_cases hs:simK κ=true
    .have HN2:=Hd (HN.out hs);have hh:κ=26\/κ=27\/κ=28\/κ=29\/κ=30\/κ=31\/κ=34\/κ=35\/κ=36\/κ=37\/κ=11\/κ=0:=by
      simp[simK]at hs;omega
     clear hs HN;rcases hh with rfl|rfl|rfl|rfl|rfl|rfl|rfl|rfl|rfl|rfl|rfl|rfl<;>(go_wp2_with fail;exact⟨HN2.out.1,by simp only[intOf];have:=HN2.out.2;omega⟩)
    .have HX:=Hd (HQ.out false wr (λh=>by cases h) HB.out);have hh:¬(κ:Int)=26/\¬(κ:Int)=27/\¬(κ:Int)=28/\¬(κ:Int)=29/\¬(κ:Int)=30/\¬(κ:Int)=31/\¬(κ:Int)=34/\¬(κ:Int)=35/\¬(κ:Int)=36/\¬(κ:Int)=37/\¬(κ:Int)=11/\¬(κ:Int)=0:=by
      simp[simK]at hs;omega
     obtain⟨n1,n2,n3,n4,n5,n6,n7,n8,n9,n10,n11,n12⟩:=hh;clear hs HN;go_wp2_with fail;exact HX.out
   .obtain rfl:k=l.length:=Z;have hlt':¬(l.length:Int)<l.length:=Z;have HX:=Hd (HQ.out (decide ((l.length:Int)<50)) wr (λh=>⟨HC.out,λp hp=>by obtain⟨j,hj,rfl⟩:=List.getElem_of_mem hp;exact HY.out j hj hj,by have:=of_decide_eq_true h;omega⟩) HB.out);go_wp2_with fail;exact HX.out
end Go.Proofs.YtfpjdpdmgceciaaGreatDoor
