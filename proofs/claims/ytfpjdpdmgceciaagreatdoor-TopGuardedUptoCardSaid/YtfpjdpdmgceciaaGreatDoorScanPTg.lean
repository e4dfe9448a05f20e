/- Layers 5 and 7 in plain Lean: where a number ends, the lexeme at a place, all lexemes of a text; no program in sight. -/
import Derived.Test.YtfpjdpdmgceciaaGreatDoorU8bTg
import Derived.Test.YtfpjdpdmgceciaaGreatDoorQuotedPTg
import Derived.Lib.SlTrimSet
import Derived.Test.YtfpjdpdmgceciaaGreatDoorCoreTg
namespace Go.Proofs.YtfpjdpdmgceciaaGreatDoor
set_option linter.all false
def zA(s:ByteArray):List Nat:=s.data.toList.map λb=>b.toNat
theorem zH(s:ByteArray):(zA s).length=s.size:=by unfold zA;rw[List.length_map,<-size_data]
theorem fW(s:ByteArray)(i:Nat)(h:i<s.size):(zA s)[i]?=some (bt s i):=by
 unfold zA bt;rw[List.getElem?_map,get!_list,List.getD_eq_getElem?_getD];have hl:i<s.data.toList.length:=by rw[<-size_data];exact h
 rw[List.getElem?_eq_getElem hl];rfl
def numCh(s:ByteArray)(at':Nat)(hex:Bool)(i:Nat):Bool :=
 decide (bt s i=95) || decide (bt s i=46) || decide (dval (bt s i)<10) || decide (97<=bt s i/\bt s i<=122) || decide (65<=bt s i/\bt s i<=90) ||
  (decide (at'<i)&&decide (bt s i=43\/bt s i=45)&&(if hex then decide (bt s (i-1)=112\/bt s (i-1)=80)else decide (bt s (i-1)=101\/bt s (i-1)=69)))
def numTo(s:ByteArray)(at':Nat)(hex:Bool)(i:Nat):Nat:=if i<s.size/\numCh s at' hex i=true then numTo s at' hex (i+1)else i
termination_by s.size-i
decreasing_by omega
def numHex(s:ByteArray)(i:Nat):Bool:=decide (i+1<s.size)&&(decide (bt s i=48)&&decide (bt s (i+1)=120\/bt s (i+1)=88))
def numBegins(s:ByteArray)(i:Nat):Bool:=decide (i<s.size)&&(decide (dval (bt s i)<10) || (decide (bt s i=46)&&(decide (i+1<s.size)&&decide (dval (bt s (i+1))<10))))
def numEnd(s:ByteArray)(i:Nat):Nat:=numTo s i (numHex s i) i
@[irreducible] def numScan(s:ByteArray)(at':Int):Int×Int×Int :=
 if 0<=at'/\numBegins s at'.toNat=true then
  if kindL (zA (s.extract at'.toNat (numEnd s at'.toNat)))≠0 then(kindL (zA (s.extract at'.toNat (numEnd s at'.toNat))),numEnd s at'.toNat,0)else(0,0,4)
 else(0,0,15)
theorem kK{s:ByteArray}{a i:Nat}{hex:Bool}(h:i<s.size)(hc:numCh s a hex i=true):numTo s a hex i=numTo s a hex (i+1):=by rw[numTo,if_pos ⟨h,hc⟩]
theorem fX{s:ByteArray}{a i:Nat}{hex:Bool}(h:¬(i<s.size/\numCh s a hex i=true)):numTo s a hex i=i:=by rw[numTo,if_neg h]
theorem zEe(s:ByteArray)(a:Nat)(hex:Bool)(i:Nat)(h:i<=s.size):i<=numTo s a hex i/\numTo s a hex i<=s.size:=by
 by_cases hc:i<s.size/\numCh s a hex i=true
 .rw[kK hc.1 hc.2];have:=zEe s a hex (i+1) (by omega);omega
 .rw[fX hc];omega
termination_by s.size-i
decreasing_by omega
theorem zFc{s:ByteArray}{i:Nat}(h:numBegins s i=true):i<numEnd s i/\numEnd s i<=s.size:=by
 unfold numBegins at h;simp only[Bool.and_eq_true,decide_eq_true_eq,Bool.or_eq_true]at h;unfold numEnd;rw[kK h.1]
 .have:=zEe s i (numHex s i) (i+1) (by omega);omega
 .unfold numCh;rcases h.2 with h2|⟨h2,_⟩<;>simp[h2]
def blankB(c:Nat):Bool:=c==32 || c==9 || c==10 || c==13
def blankTo(s:ByteArray)(i:Nat):Nat:=if i<s.size/\blankB (bt s i)=true then blankTo s (i+1)else i
termination_by s.size-i
decreasing_by omega
def inWord(s:ByteArray)(i:Nat):Bool:=decide ((rd s i).2≠0)&&(letter (rd s i).1 || digit (rd s i).1)
def wordTo(s:ByteArray)(i:Nat):Nat:=if h:i<s.size/\inWord s i=true then wordTo s (i+(rd s i).2)else i
termination_by s.size-i
decreasing_by unfold inWord at h;simp at h;omega
def lineTo(s:ByteArray)(i:Nat):Nat:=if i<s.size/\bt s i≠10 then lineTo s (i+1)else i
termination_by s.size-i
decreasing_by omega
def blockTo(s:ByteArray)(i:Nat):Option Nat :=
 if i+1<s.size then(if bt s i=42/\bt s (i+1)=47 then some (i+2)else blockTo s (i+1))else none
termination_by s.size-i
decreasing_by omega
def signs3:List (List Nat):=[[60,60,61],[62,62,61],[38,94,61],[46,46,46]]
def signs2:List (List Nat):=[[60,60],[62,62],[38,94],[43,61],[45,61],[42,61],[47,61],[37,61],[38,61],[124,61],[94,61],[38,38],[124,124],[60,45],[43,43],[45,45],[61,61],[33,61],[60,61],[62,61],[58,61]]
def signs1:List (List Nat):=[[43],[45],[42],[47],[37],[38],[124],[94],[60],[62],[61],[33],[126],[40],[41],[91],[93],[123],[125],[44],[46],[58]]
def signL(l:List Nat):Nat :=
 if signs3.contains (l.take 3)then 3 else if signs2.contains (l.take 2)then 2 else if signs1.contains (l.take 1)then 1 else 0
@[irreducible] def lex(s:ByteArray)(i:Nat):Int×Int :=
 if(rd s i).1=65279 then(10,(i+(rd s i).2:Nat))
 else if blank (rd s i).1 then(10,blankTo s i)
 else if i+1<s.size/\bt s i=47/\bt s (i+1)=47 then(11,lineTo s i)
 else if i+1<s.size/\bt s i=47/\bt s (i+1)=42 then(match blockTo s (i+2)with|some e=>(12,(e:Int))|none=>(0,0))
 else if letter (rd s i).1 then(if word (s.extract i (wordTo s i))then(2,wordTo s i)else(1,wordTo s i))
 else if bt s i=59 then(9,(i+1:Nat))
 else if(numScan s i).2.2≠15 then((numScan s i).1,(numScan s i).2.1)
 else if(begun s i).2.2.2≠15 then((begun s i).1,(begun s i).2.1)
 else if 0<signL (zA (s.extract i s.size))then(8,(i+signL (zA (s.extract i s.size)):Nat))else(0,0)
def badHere(s:ByteArray)(i:Nat):Bool:=decide ((rd s i).2=0) || decide ((rd s i).1=0) || (decide ((rd s i).1=65279)&&decide (0<i))
def cleanZ(s:ByteArray)(i:Nat):Int:=if h:i<s.size then(if hb:badHere s i=true then(i:Int)else cleanZ s (i+(rd s i).2))else -1
termination_by s.size-i
decreasing_by unfold badHere at hb;simp at hb;omega
@[irreducible] def clean(s:ByteArray):Int:=cleanZ s 0
theorem vG{s:ByteArray}{i:Nat}{l:List UInt8}(h:s.data.toList.drop i=l):s.size-i=l.length:=by
 have:=congrArg List.length h;rw[List.length_drop,<-size_data]at this;exact this
theorem kY{s:ByteArray}{i:Nat}{b:UInt8}{t:List UInt8}(h:s.data.toList.drop i=b::t):i<s.size/\bt s i=b.toNat/\s.data.toList.drop (i+1)=t:=by
 have hlen:=vG h;refine⟨by simp at hlen;omega,?_,?_⟩
 .unfold bt;rw[get!_list];have h1:(s.data.toList.drop i)[0]?=some b:=by rw[h];rfl
  rw[List.getElem?_drop,Nat.add_zero]at h1;rw[List.getD_eq_getElem?_getD,h1];rfl
 .have:(s.data.toList.drop i).drop 1=t:=by rw[h];rfl
  rwa [List.drop_drop]at this
theorem xD(s:ByteArray)(i:Nat):(s.extract i s.size).data.toList=s.data.toList.drop i:=by
 rw[yA,List.take_of_length_le];rw[List.length_drop,<-size_data];omega
theorem zAr(s:ByteArray)(i:Nat)(h:i<=s.size):i<=blankTo s i/\blankTo s i<=s.size:=by
 by_cases hc:i<s.size/\blankB (bt s i)=true
 .rw[blankTo,if_pos hc];have:=zAr s (i+1) (by omega);omega
 .rw[blankTo,if_neg hc];omega
termination_by s.size-i
decreasing_by omega
theorem zFd(s:ByteArray)(i:Nat)(h:i<=s.size):i<=lineTo s i/\lineTo s i<=s.size:=by
 by_cases hc:i<s.size/\bt s i≠10
 .rw[lineTo,if_pos hc];have:=zFd s (i+1) (by omega);omega
 .rw[lineTo,if_neg hc];omega
termination_by s.size-i
decreasing_by omega
theorem zDd(s:ByteArray)(i e:Nat)(h:blockTo s i=some e):i+2<=e/\e<=s.size:=by
 rw[blockTo]at h;split at h
 .split at h
  .cases h;omega
  .have:=zDd s (i+1) e h;omega
 .cases h
termination_by s.size-i
decreasing_by omega
theorem gH(s:ByteArray)(i:Nat)(h:i<=s.size):i<=wordTo s i/\wordTo s i<=s.size:=by
 by_cases hc:i<s.size/\inWord s i=true
 .rw[wordTo,dif_pos hc];have hw:=xH s i;have h0:(rd s i).2≠0:=by have:=hc.2;unfold inWord at this;simp at this;exact this.1
  have:=gH s (i+(rd s i).2) (by omega);omega
 .rw[wordTo,dif_neg hc];omega
termination_by s.size-i
decreasing_by omega
def blanks:List UInt8:=[32,9,13,10]
theorem zTw(b:UInt8):blanks.contains b=blankB b.toNat:=by
 have h:∀n:Nat,n<256->(blanks.contains (UInt8.ofNat n))=blankB n:=by decide +kernel
 have:=h b.toNat b.toNat_lt;rw[UInt8.ofNat_toNat]at this;exact this
theorem zEf(s:ByteArray):∀(l:List UInt8)(i:Nat),s.data.toList.drop i=l->i<=s.size->(Lib.trimLeftS l blanks).length+blankTo s i=s.size
 |[],i,h,hi=>by
  have hlen:=vG h;rw[blankTo,if_neg (by simp at hlen;omega)];simp[Lib.trimLeftS]at hlen ⊢;omega
 |b::t,i,h,hi=>by
  obtain⟨h1,h2,h3⟩:=kY h;have hlen:=vG h;have ih:=zEf s t (i+1) h3 (by omega);rw[blankTo,h2,<-zTw];by_cases hb:blanks.contains b=true
  .rw[if_pos ⟨h1,hb⟩];unfold Lib.trimLeftS at ih ⊢;rw[List.dropWhile_cons_of_pos hb];exact ih
  .rw[if_neg (λhh=>hb hh.2)];unfold Lib.trimLeftS;rw[List.dropWhile_cons_of_neg hb];omega
theorem zTx(s:ByteArray)(i:Nat)(hi:i<=s.size):(Lib.trimLeftS (s.extract i s.size).data.toList blanks).length+blankTo s i=s.size:=by
 rw[xD];exact zEf s _ i rfl hi
theorem zEg(s:ByteArray):∀(l:List UInt8)(i:Nat),s.data.toList.drop i=l->i<=s.size->lineTo s i=if Lib.indexByte l 10<0 then s.size else i+(Lib.indexByte l 10).toNat
 |[],i,h,hi=>by
  have hlen:=vG h;rw[lineTo,if_neg (by simp at hlen;omega),if_pos (by decide)];simp at hlen;omega
 |b::t,i,h,hi=>by
  obtain⟨h1,h2,h3⟩:=kY h;have ih:=zEg s t (i+1) h3 (by omega);rw[lineTo,h2];have hge:=Lib.indexByte_ge t 10;by_cases hb:b=10
  .subst hb;have h0:Lib.indexByte (10::t) 10=0:=by unfold Lib.indexByte;rw[if_pos (by decide)]
   rw[if_neg (λhh=>hh.2 rfl),h0];rfl
  .have hn:b.toNat≠10:=λe=>hb (UInt8.toNat_inj.1 (by rw[e];rfl))
   have h0:Lib.indexByte (b::t) 10=if Lib.indexByte t 10==-1 then -1 else Lib.indexByte t 10+1:=by
    rw[Lib.indexByte,if_neg (by simpa using hb)]
   rw[if_pos ⟨h1,hn⟩,ih,h0];by_cases hm:Lib.indexByte t 10=-1
   .rw[hm];rfl
   .have e2:(if Lib.indexByte t 10==-1 then(-1:Int)else Lib.indexByte t 10+1)=Lib.indexByte t 10+1:=by rw[if_neg (by simpa using hm)]
    rw[e2,if_neg (by omega),if_neg (by omega)];omega
theorem zTy(s:ByteArray)(i:Nat)(hi:i<=s.size):lineTo s i=if Lib.indexByte (s.extract i s.size).data.toList 10<0 then s.size else i+(Lib.indexByte (s.extract i s.size).data.toList 10).toNat:=by
 rw[xD];exact zEg s _ i rfl hi
theorem zCu(s:ByteArray):∀(l:List UInt8)(i:Nat),s.data.toList.drop i=l->i<=s.size->blockTo s i=if Lib.index l [42,47]<0 then none else some (i+(Lib.index l [42,47]).toNat+2)
 |[],i,h,hi=>by
  have hlen:=vG h;rw[blockTo,if_neg (by simp at hlen;omega),if_pos (by decide)]
 |b::t,i,h,hi=>by
  obtain⟨h1,h2,h3⟩:=kY h;have hlen:=vG h;have ih:=zCu s t (i+1) h3 (by omega);have hge:=Lib.index_ge t [42,47];rw[blockTo,h2];have key:(b.toNat=42/\i+1<s.size/\bt s (i+1)=47)↔([42,47]:List UInt8).isPrefixOf (b::t)=true:=by
   cases t with
   |nil =>
    simp at hlen;constructor
    .rintro⟨_,h,_⟩;omega
    .intro h;simp[List.isPrefixOf]at h
   |cons d t =>
    obtain⟨g1,g2,_⟩:=kY h3;rw[g2];simp only[List.isPrefixOf,Bool.and_true,Bool.and_eq_true,beq_iff_eq];constructor
    .rintro⟨e1,_,e2⟩;exact⟨(UInt8.toNat_inj.1 (by rw[e1];rfl)),(UInt8.toNat_inj.1 (by rw[e2];rfl))⟩
    .rintro⟨rfl,rfl⟩;exact⟨rfl,g1,rfl⟩
  rw[Lib.index];by_cases hp:([42,47]:List UInt8).isPrefixOf (b::t)=true
  .obtain⟨k1,k2,k3⟩:=key.2 hp;rw[if_pos k2,if_pos ⟨k1,k3⟩,if_pos hp];rfl
  .rw[if_neg hp];have e:(if i+1<s.size then if b.toNat=42/\bt s (i+1)=47 then some (i+2)else blockTo s (i+1)else none)=blockTo s (i+1):=by
    by_cases hl:i+1<s.size
    .rw[if_pos hl,if_neg (λhh=>hp (key.1 ⟨hh.1,hl,hh.2⟩))]
    .rw[if_neg hl,blockTo,if_neg (by omega)]
   rw[e,ih];by_cases hm:Lib.index t [42,47]=-1
   .rw[hm];rfl
   .have e2:(if Lib.index t [42,47]==-1 then(-1:Int)else Lib.index t [42,47]+1)=Lib.index t [42,47]+1:=by rw[if_neg (by simpa using hm)]
    rw[e2,if_neg (by omega),if_neg (by omega)]
    congr 1;omega
theorem zQz(s:ByteArray)(i:Nat)(hi:i<=s.size):blockTo s i=if Lib.index (s.extract i s.size).data.toList [42,47]<0 then none else some (i+(Lib.index (s.extract i s.size).data.toList [42,47]).toNat+2):=by
 rw[xD];exact zCu s _ i rfl hi
theorem prefix2(s:ByteArray)(i:Nat)(c d:UInt8):Lib.hasPrefix (s.extract i s.size).data.toList [c,d]=decide (i+1<s.size/\bt s i=c.toNat/\bt s (i+1)=d.toNat):=by
 rw[xD,Bool.eq_iff_iff,decide_eq_true_eq];unfold Lib.hasPrefix;cases h:s.data.toList.drop i with
 |nil =>
  have:=vG h;simp at this;simp[List.isPrefixOf];omega
 |cons b t =>
  obtain⟨h1,h2,h3⟩:=kY h;cases ht:t with
  |nil =>
   rw[ht]at h3;have:=vG h3;simp at this;simp[List.isPrefixOf];omega
  |cons e t' =>
   rw[ht]at h3;obtain⟨g1,g2,_⟩:=kY h3;rw[h2,g2];simp only[List.isPrefixOf,Bool.and_true,Bool.and_eq_true,beq_iff_eq];constructor
   .rintro⟨rfl,rfl⟩;exact⟨g1,rfl,rfl⟩
   .rintro⟨_,e1,e2⟩;exact⟨(UInt8.toNat_inj.1 e1).symm,(UInt8.toNat_inj.1 e2).symm⟩
theorem zNu(s:ByteArray)(i:Nat)(h0:(rd s i).2≠0):bt s i / 64≠2/\∀k,1<=k->k<(rd s i).2->bt s (i+k) / 64=2:=by
 have hi:i<s.size:=by
  rcases Nat.lt_or_ge i s.size with h|h
  .exact h
  .rw[zJq h]at h0;exact absurd rfl h0
 rcases vP s i hi with⟨hc,_⟩|⟨h1,h4,hn,hmay,hform,_⟩
 .exact absurd (by rw[hc]) h0
 .generalize hq:rd s i=q at *;obtain⟨r,n⟩:=q;simp only[]at *;have hb:∀k,k<n->bt s (i+k)=bt (form r) k:=λk hk=>by
   unfold bt;rw[hform,get!_extract s i (i+n) k (by omega) hn]
  have hsz:(formZ r).length=n:=by rw[<-zCp,hform,ByteArray.size_extract];omega
  have hm:=(yZ r).1 hmay;have g:∀k x,(formZ r)[k]?=some x->0<=x->x<256->(bt (form r) k:Int)=x:=λk x a b c=>vZ r k x a b c;have b0:=hb 0 (by omega);rw[Nat.add_zero]at b0;unfold formZ at hsz g;rw[if_neg (by simp[hmay])]at hsz;simp only[if_neg (show ¬may r=false by simp[hmay])]at g;by_cases c1:(r:Int)<128
  .rw[if_pos c1]at hsz;simp only[if_pos c1]at g;simp at hsz;have e0:=g 0 _ rfl (by omega) (by omega);exact⟨by omega,λk a b=>by omega⟩
  .rw[if_neg c1]at hsz;simp only[if_neg c1]at g;by_cases c2:(r:Int)<2048
   .rw[if_pos c2]at hsz;simp only[if_pos c2]at g;simp at hsz;have e0:=g 0 _ rfl (by omega) (by omega);have e1:=g 1 _ rfl (by omega) (by omega);have b1:=hb 1 (by omega);refine⟨by omega,λk a b=>?_⟩;obtain rfl:k=1:=by omega
    omega
   .rw[if_neg c2]at hsz;simp only[if_neg c2]at g;by_cases c3:(r:Int)<65536
    .rw[if_pos c3]at hsz;simp only[if_pos c3]at g;simp at hsz;have e0:=g 0 _ rfl (by omega) (by omega);have e1:=g 1 _ rfl (by omega) (by omega);have e2:=g 2 _ rfl (by omega) (by omega);have b1:=hb 1 (by omega);have b2:=hb 2 (by omega);refine⟨by omega,λk a b=>?_⟩;obtain rfl|rfl:k=1\/k=2:=by omega
     .omega
     .omega
    .rw[if_neg c3]at hsz;simp only[if_neg c3]at g;simp at hsz;have e0:=g 0 _ rfl (by omega) (by omega);have e1:=g 1 _ rfl (by omega) (by omega);have e2:=g 2 _ rfl (by omega) (by omega);have e3:=g 3 _ rfl (by omega) (by omega);have b1:=hb 1 (by omega);have b2:=hb 2 (by omega);have b3:=hb 3 (by omega);refine⟨by omega,λk a b=>?_⟩;obtain rfl|rfl|rfl:k=1\/k=2\/k=3:=by omega
     .omega
     .omega
     .omega
theorem zFe{s:ByteArray}{i:Nat}(h:i<s.size)(hb:badHere s i=true):cleanZ s i=i:=by rw[cleanZ,dif_pos h,dif_pos hb]
theorem gW{s:ByteArray}{i:Nat}(h:i<s.size)(hb:badHere s i=false):cleanZ s i=cleanZ s (i+(rd s i).2):=by rw[cleanZ,dif_pos h,dif_neg (by simp[hb])]
theorem zCk{s:ByteArray}{i:Nat}(h:¬i<s.size):cleanZ s i=-1:=by rw[cleanZ,dif_neg h]
theorem zTz{s:ByteArray}{i:Nat}(hb:badHere s i=false):(rd s i).2≠0:=by
 intro h;unfold badHere at hb;simp[h]at hb
def upTo(s:ByteArray):Nat:=match(scan s 0).2 with|some i=>i|none=>s.size
theorem zNv(s:ByteArray):upTo s<=s.size:=by
 unfold upTo;cases h:(scan s 0).2 with
 |none=>exact Nat.le_refl _
 |some j=>have:=(fJ s 0 j h).2;simp only[];omega
theorem yDp(s:ByteArray):bad s=if upTo s<s.size then(upTo s:Int)else -1:=by
 unfold bad badZ upTo;cases h:(scan s 0).2 with
 |none=>simp
 |some j=>have:=(fJ s 0 j h).2;simp only[];rw[if_pos this]
theorem zYg{s:ByteArray}{i:Nat}(hs:(scan s i).2=(scan s 0).2)(hi:i<upTo s):(rd s i).2≠0/\i+(rd s i).2<=upTo s/\(scan s (i+(rd s i).2)).2=(scan s 0).2:=by
 have hle:=zNv s;have h0:(rd s i).2≠0:=λh0=>by
  rw[zAb (by omega) h0]at hs;unfold upTo at hi;rw[<-hs]at hi;simp at hi
 have e:=congrArg Prod.snd (vU (s:=s) (i:=i) (by omega) h0);simp only[]at e;refine⟨h0,?_,by rw[<-e,hs]⟩;have hw:=xH s i;have e2:(scan s (i+(rd s i).2)).2=(scan s 0).2:=by rw[<-e,hs]
 unfold upTo;cases h:(scan s 0).2 with
 |none=>simp only[];omega
 |some j =>
  rw[h]at e2;exact(fJ s _ j e2).1
theorem yDq{s:ByteArray}(hs:(scan s (upTo s)).2=(scan s 0).2)(hi:upTo s<s.size):(rd s (upTo s)).2=0:=by
 cases Nat.eq_zero_or_pos (rd s (upTo s)).2 with
 |inl h=>exact h
 |inr h =>
  exfalso;have h0:(rd s (upTo s)).2≠0:=by omega
  have e:=congrArg Prod.snd (vU (s:=s) (i:=upTo s) hi h0);simp only[]at e;cases h2:(scan s 0).2 with
  |none=>unfold upTo at hi;rw[h2]at hi;simp at hi
  |some j =>
   have hj:upTo s=j:=by unfold upTo;rw[h2]
   have:=fJ s (upTo s+(rd s (upTo s)).2) j (by rw[<-e,hs,h2]);omega
theorem yGc{s:ByteArray}{i:Nat}(h0:(rd s i).2≠0)(h:i+(rd s i).2<=upTo s):rd (s.extract 0 (upTo s)) i=rd s i:=by
 have hle:=zNv s;have e:=zTa s (upTo s) hle;have hz:(s.extract 0 (upTo s)).size=upTo s:=by rw[ByteArray.size_extract];omega
 have:=zNl (s.extract 0 (upTo s)) (s.extract (upTo s) s.size) i;rw[e,hz]at this;exact this h0 h
theorem zCl(s:ByteArray)(i:Nat)(h:(begun s i).1≠0):(begun s i).2.2.2=0:=by
 by_cases he:(begun s i).2.2.2=0
 .exact he
 .exfalso;unfold begun at h he;split at h
  .exact h rfl
  .rename_i h1;rw[if_neg h1]at he;split at h
   .rename_i h2;rw[if_pos h2]at he;unfold begunAt at h he;split at h
    .rename_i h3;rw[if_pos h3]at he;cases hr:raw s ((i:Int).toNat+1)with
     |none=>rw[hr]at h;exact h rfl
     |some p=>rw[hr]at he;exact he rfl
    .rename_i h3;rw[if_neg h3]at he;split at h
     .rename_i h4;rw[if_pos h4]at he;cases hr:body s ((i:Int).toNat+1)with
      |none=>rw[hr]at h;exact h rfl
      |some p=>rw[hr]at he;exact he rfl
     .rename_i h4;rw[if_neg h4]at he;cases hr:single s ((i:Int).toNat+1)with
      |none=>rw[hr]at h;exact h rfl
      |some p=>rw[hr]at he;exact he rfl
   .exact h rfl
set_option maxRecDepth 100000
set_option maxHeartbeats 32000000
open Go.RowKit
abbrev lowT:ByteArray:=⟨#[48,49,50,51,52,53,54,55,56,57,97,98,99,100,101,102]⟩
abbrev bigT:ByteArray:=⟨#[48,49,50,51,52,53,54,55,56,57,65,66,67,68,69,70]⟩
theorem yFo:∀c:Nat,c<256->∀i:Nat,i<16->((bt lowT i=c\/bt bigT i=c)↔dval c=i):=by decide +kernel
theorem zXs(c b:Nat)(hc:c<256)(hb:b<=16)(w:World) :
  Calls Tryz.prog 122 #[.int .u8 (c:Int),.int .i64 (b:Int)] w λe w'=>e=.returned (.bool (decide (dval c<b)))/\w=w':=by
 have HQ:Hid (∀x,decide (dval c<b)=x->(λ(e:Ending) w'=>e=.returned (.bool (decide (dval c<b)))/\w=w') (.returned (.bool x)) w):=Hd λx h=>⟨by rw[h],rfl⟩
 have HT:=Hd (yFo c hc);generalize(λ(e:Ending) w'=>e=.returned (.bool (decide (dval c<b)))/\w=w')=Q at *;go_enter Tryz.func122,Tryz.ntmps122;go_wp2_with fail;go_loopw [7] (λi wr=>∃k:Nat,i=.int .i64 k/\k<=b/\¬dval c<k/\wr=w) (λi _=>b-(intOf i).toNat)
 case atStart=>exact⟨0,rfl,Nat.zero_le _,Z,rfl⟩
 case round =>
  obtain⟨k,rfl,hk,hn,rfl⟩:=hrel;by_cases hlt:k<b
  .have hlt':(k:Int)<b:=Z;have h16:k<16:=Z;have h16':(k:Int)<16:=Z;have hk0:(0:Int)<=k:=Z;have e1:=zL lowT k h16;have e2:=zL bigT k h16;have hd:=HT.out k h16;have hwk:IntKind.i64.wrap ((k:Int)+1)=((k+1:Nat):Int):=wI Z;have HNX:Hid (dval c≠k->¬dval c<k+1):=Hd Z;have HYES:Hid (dval c=k->dval c<b):=Hd Z;generalize bt lowT k=x at *;generalize bt bigT k=y at *;clear hn;by_cases hx:x=c
   .subst hx;have hy:=HYES.out (hd.1 (Or.inl rfl));clear hd;go_wp2_with fail;exact HQ.out true (decide_eq_true hy)
   .have hxb:((x:Int)==(c:Int))=false:=by rw[bE];omega
    by_cases hy:y=c
    .subst hy;have hy:=HYES.out (hd.1 (Or.inr rfl));clear hd;go_wp2_with fail;exact HQ.out true (decide_eq_true hy)
    .have hyb:((y:Int)==(c:Int))=false:=by rw[bE];omega
     have hne:=HNX.out (λg=>by rcases hd.2 g with g|g;exact hx g;exact hy g);have HNE:=Hd hne;clear hd hne;go_wp2_with fail;refine⟨⟨k+1,congrArg (Value.int .i64) Z,hlt,HNE.out,(by first|trivial|rfl)⟩,?_⟩;simp only[intOf];omega
  .have hlt':¬(k:Int)<b:=Z;obtain rfl:k=b:=Z;go_wp2_with fail;exact HQ.out false (decide_eq_false hn)
attribute [local irreducible] Calls
attribute [local irreducible] wpStill
def RqB(P:Bool->Prop)(w:World)(e:Ending)(w':World):Prop:=∃z,e=.returned (.bool z)/\P z/\w=w'
theorem RqB.mk{P:Bool->Prop}{w:World}:Hid (∀z,P z->RqB P w (.returned (.bool z)) w):=Hd λz h=>⟨z,rfl,h,rfl⟩
def RqA(w:World)(e:Ending)(w':World):Prop:=∃z,e=.returned (.bool z)/\w=w'
theorem RqA.mk{w:World}:Hid (∀z,RqA w (.returned (.bool z)) w):=Hd λz=>⟨z,rfl,rfl⟩
theorem jM{s:ByteArray}{a b:Nat}(h:s.size<=2147483647):(s.extract a b).size<=2147483647:=by rw[ByteArray.size_extract];omega
theorem fF(s:ByteArray)(b:Nat)(hb:b<=16)(hs:s.size<=2147483647)(w:World):Calls Tryz.prog 73 #[.string s,.int .i64 (b:Int)] w (RqB (λz=>z=true->0<s.size) w):=by
 have HQ:=RqB.mk (P:=λz=>z=true->0<s.size) (w:=w);have CD:=Hd (λj=>zXs (bt s j) b (yT s j) hb w);generalize RqB (λz=>z=true->0<s.size) w=Q at HQ ⊢;go_enter Tryz.func73,Tryz.ntmps73;by_cases h0:s.size=0
 .have h0':(s.size:Int)=0:=Z;go_wp2_with fail;exact HQ.out false (λh=>by cases h)
 have h0':((s.size:Int)==0)=false:=by rw[bE];omega
 have hp:0<s.size:=Z;have hpI:(0:Int)<s.size:=Z;have y0:=zL s 0 hp;have yl:=zL s (s.size-1) Z;have hwm:IntKind.i64.wrap ((s.size:Int)-1)=((s.size-1:Nat):Int):=wI Z;have hl1:((s.size-1:Nat):Int)<s.size:=Z;have hl2:(0:Int)<=((s.size-1:Nat):Int):=Z;have hl3:s.size-1<s.size:=Z;have hl4:(s.size:Int)-1<s.size:=Z;have hl5:(0:Int)<=(s.size:Int)-1:=Z;have hl6:((s.size:Int)-1).toNat=s.size-1:=Z;have HX:=Hd (λz=>HQ.out z (λ_=>hp));have CD0:=Hd (CD.out 0);have CDl:=Hd (CD.out (s.size-1));have HD0:Hid (decide (dval (bt s 0)<b)=true->bt s 0≠95):=Hd λh g=>by have:=of_decide_eq_true h;rw[g,zSh]at this;omega
 clear h0;generalize decide (dval (bt s 0)<b)=d0 at *;generalize decide (dval (bt s (s.size-1))<b)=dl at *;go_wp2_with fail;refine CD0.out.mono ?_;rintro e w' ⟨rfl,rfl⟩;cases d0 with
 |false =>
  go_wp2_with fail;exact HX.out _
 |true =>
 go_wp2_with fail;refine CDl.out.mono ?_;rintro e w' ⟨rfl,rfl⟩;cases dl with
 |false =>
  go_wp2_with fail;exact HX.out _
 |true =>
 have hd0:=HD0.out (by first|trivial|rfl);clear y0 yl CD0 CDl HD0;go_wp2_with fail;go_loopw [5] (λi wr=>∃k:Nat,i=.int .i64 k/\k<=s.size/\wr=w) (λi _=>s.size-(intOf i).toNat)
 case atStart=>exact⟨0,rfl,Nat.zero_le _,rfl⟩
 case round =>
  obtain⟨k,rfl,hk,rfl⟩:=hrel;by_cases hlt:k<s.size
  .have hlt':(k:Int)<s.size:=Z;have hk0:(0:Int)<=k:=Z;have yk:=zL s k hlt;have hwk:IntKind.i64.wrap ((k:Int)+1)=((k+1:Nat):Int):=wI Z;have CDk:=Hd (CD.out k);generalize decide (dval (bt s k)<b)=dk at *;by_cases h95:bt s k=95
   .have hk1:0<k:=by
     rcases Nat.eq_zero_or_pos k with g|g
     .subst g;exact absurd h95 hd0
     .exact g
    have yp:=zL s (k-1) Z;have w1:IntKind.i64.wrap ((k:Int)-1)=((k-1:Nat):Int):=wI Z;have w2:(k:Int)-1<s.size:=Z;have w3:(0:Int)<=(k:Int)-1:=Z;have w4:((k:Int)-1).toNat=k-1:=Z;have w5:((k-1:Nat):Int)<s.size:=Z;rw[h95]at yk CDk;clear hd0 h95;generalize bt s (k-1)=d at *;by_cases hd:d=95
    .subst hd;go_wp2_with fail;refine CDk.out.mono ?_;rintro e w' ⟨rfl,rfl⟩;cases dk<;>go_wp2_with fail
     .exact HX.out _
     .exact⟨⟨k+1,congrArg (Value.int .i64) Z,hlt,by first|trivial|rfl⟩,by simp only[intOf];omega⟩
    .have h2b:((d:Int)==95)=false:=by rw[bE];omega
     go_wp2_with fail;exact⟨⟨k+1,congrArg (Value.int .i64) Z,hlt,by first|trivial|rfl⟩,by simp only[intOf];omega⟩
   .have h1b:((bt s k:Int)==95)=false:=by rw[bE];omega
    clear hd0 h95;generalize bt s k=c at *;go_wp2_with fail;refine CDk.out.mono ?_;rintro e w' ⟨rfl,rfl⟩;cases dk<;>go_wp2_with fail
    .exact HX.out _
    .exact⟨⟨k+1,congrArg (Value.int .i64) Z,hlt,by first|trivial|rfl⟩,by simp only[intOf];omega⟩
  .have hlt':¬(k:Int)<s.size:=Z;go_wp2_with fail;exact HX.out _
theorem gG(s:ByteArray)(b:Nat)(hb:b<=16)(hs:s.size<=2147483647)(w:World):Calls Tryz.prog 118 #[.string s,.int .i64 (b:Int)] w (RqA w):=by
 have HQ:=RqA.mk (w:=w);have C1:=Hd (fF s b hb hs w);have C2:=Hd (fF (s.extract 1 s.size) b hb (jM hs) w);generalize RqA w=Q at HQ ⊢;by_cases h1:1<s.size
 .have h1':(1:Int)<s.size:=Z;have h1'':(1:Int)<=s.size:=Z;have h0':(0:Int)<s.size:=Z;have y0:=zL s 0 Z;generalize bt s 0=c at *;have hc:((c:Int)==95)=false\/c=95:=by rw[bE];omega
  rcases hc with hc|rfl;all_goals
   go_enter Tryz.func118,Tryz.ntmps118;go_wp2_with fail;refine C1.out.mono ?_;rintro e w' ⟨z,rfl,-,rfl⟩;cases z<;>go_wp2_with fail
   all_goals first|exact HQ.out _|skip
  refine C2.out.mono ?_;rintro e w' ⟨z,rfl,-,rfl⟩;go_wp2_with fail;exact HQ.out _
 .have h1':¬(1:Int)<s.size:=Z;go_enter Tryz.func118,Tryz.ntmps118;go_wp2_with fail;refine C1.out.mono ?_;rintro e w' ⟨z,rfl,-,rfl⟩;cases z
  all_goals
   go_wp2_with fail;exact HQ.out _
theorem zAp(s:ByteArray)(x y:Nat)(hs:s.size<=2147483647)(w:World):Calls Tryz.prog 119 #[.string s,.int .u8 (x:Int),.int .u8 (y:Int)] w (RqB (λz=>z=true->2<=s.size) w):=by
 have HQ:=RqB.mk (P:=λz=>z=true->2<=s.size) (w:=w);generalize RqB (λz=>z=true->2<=s.size) w=Q at HQ ⊢;by_cases h2:2<=s.size
 .have h2':(2:Int)<=s.size:=Z;have h0':(0:Int)<s.size:=Z;have h1':(1:Int)<s.size:=Z;have y0:=zL s 0 Z;have y1:=zL s 1 Z;have HX:=Hd (λz=>HQ.out z (λ_=>h2));generalize bt s 0=c at *;generalize bt s 1=d at *;have hc:((c:Int)==48)=false\/c=48:=by rw[bE];omega
  have hx:((d:Int)==(x:Int))=false\/d=x:=by rw[bE];omega
  rcases hc with hc|rfl<;>rcases hx with hx|rfl;all_goals
   go_enter Tryz.func119,Tryz.ntmps119;go_wp2_with fail;exact HX.out _
 .have h2':¬(2:Int)<=s.size:=Z;go_enter Tryz.func119,Tryz.ntmps119;go_wp2_with fail;exact HQ.out _ (λh=>by cases h)
theorem RqB.no{P:Bool->Prop}{w:World}{e:Ending}{w':World}(h:RqB P w e w')(hn:¬P true):e=.returned (.bool false)/\w=w':=by
 obtain⟨z,rfl,hz,rfl⟩:=h;cases z with
 |true=>exact absurd hz hn
 |false=>exact⟨rfl,rfl⟩
theorem zTd(a b:Nat):(((a:Int)==(b:Int))=false/\((a:Int) != (b:Int))=true)\/a=b:=by
 by_cases h:a=b
 .exact Or.inr h
 .refine Or.inl ⟨by rw[bE];omega,by rw[bne_iff_ne];omega⟩
theorem zAx(a k:Nat)(b:Int)(e:b=(k:Int)):(((a:Int)==b)=false/\((a:Int) != b)=true)\/a=k:=by
 subst e;exact zTd a k
theorem yCl(t:ByteArray):∃r,t.toList.isEmpty=r/\(t.toList==[])=r:=⟨_,rfl,by cases t.toList<;>rfl⟩
theorem zXt(s:ByteArray)(x y:Nat)(hs:s.size<=2147483647)(w:World):Calls Tryz.prog 120 #[.string s,.int .u8 (x:Int),.int .u8 (y:Int)] w (RqA w):=by
 have HQ:=RqA.mk (w:=w);have C1:=Hd (fF (s.extract 1 s.size) 10 Z (jM hs) w);have C2:=Hd (fF (s.extract 2 s.size) 10 Z (jM hs) w);generalize RqA w=Q at HQ ⊢;by_cases h2:s.size<2
 .have h2':(s.size:Int)<2:=Z;go_enter Tryz.func120,Tryz.ntmps120;go_wp2_with fail;exact HQ.out _
 .have h2':¬(s.size:Int)<2:=Z;have h0':(0:Int)<s.size:=Z;have h1':(1:Int)<s.size:=Z;have h1'':(1:Int)<=s.size:=Z;have h2'':(2:Int)<=s.size:=Z;have y0:=zL s 0 Z;have y1:=zL s 1 Z;generalize bt s 0=c at *;generalize bt s 1=d at *;rcases zTd c x with⟨a1,a2⟩|rfl<;>rcases zTd c y with⟨b1,b2⟩|e<;>rcases zAx d 43 43 rfl with⟨d1,d2⟩|rfl<;>try rcases zAx d 45 45 rfl with⟨d3,d4⟩|rfl
  all_goals
   try subst e
   go_enter Tryz.func120,Tryz.ntmps120;go_wp2_with fail;first
    |exact HQ.out _
    | (refine C1.out.mono ?_
       rintro e w' ⟨z,rfl,-,rfl⟩;go_wp2_with fail;exact HQ.out _)
    | (refine C2.out.mono ?_
       rintro e w' ⟨z,rfl,-,rfl⟩;go_wp2_with fail;exact HQ.out _)
theorem zGc(s:ByteArray)(b:Nat)(hb:b<=16)(hex:Bool)(hs:s.size<=2147483647)(w:World):Calls Tryz.prog 121 #[.string s,.int .i64 (b:Int),.bool hex] w (RqA w):=by
 have HQ:=RqA.mk (w:=w);have CR:=Hd (λi j=>fF (s.extract i j) b hb (jM hs) w);have CU:=Hd (λi j=>gG (s.extract i j) b hb (jM hs) w);generalize RqA w=Q at HQ ⊢;go_enter Tryz.func121,Tryz.ntmps121;go_wp2_with fail;go_loopw [7] (λi wr=>∃k:Nat,i=.int .i64 k/\k<=s.size/\wr=w) (λi _=>s.size-(intOf i).toNat)
 case atStart=>exact⟨0,rfl,Nat.zero_le _,rfl⟩
 case round =>
  obtain⟨k,rfl,hk,rfl⟩:=hrel;by_cases hlt:k<s.size
  .have hlt':(k:Int)<s.size:=Z;have hle':(k:Int)<=s.size:=Z;have hle1:(k:Int)+1<=s.size:=Z;have hk0:(0:Int)<=k:=Z;have yk:=zL s k hlt;have hwk:IntKind.i64.wrap ((k:Int)+1)=((k+1:Nat):Int):=wI Z;have Ca:=Hd (CR.out 0 k);have Cu:=Hd (CU.out 0 k);have Cb:=Hd (CR.out (k+1) s.size);obtain⟨ea,z1,z2⟩:=yCl (s.extract 0 k);obtain⟨eb,z3,z4⟩:=yCl (s.extract (k+1) s.size);generalize bt s k=c at *;rcases zAx c 46 46 rfl with⟨d1,d2⟩|rfl
   .go_wp2_with fail;exact⟨⟨k+1,congrArg (Value.int .i64) Z,hlt,by first|trivial|rfl⟩,by simp only[intOf];omega⟩
   .cases ea<;>cases eb<;>cases hex
    all_goals
     go_wp2_with fail;refine Ca.out.mono ?_;rintro e w' ⟨z,rfl,-,rfl⟩;cases z
     all_goals
      go_wp2_with fail
      repeat' first
       |exact HQ.out _
       | (refine Cu.out.mono ?_
          rintro e w' ⟨z,rfl,rfl⟩;cases z
          all_goals go_wp2_with fail)
       | (refine Cb.out.mono ?_
          rintro e w' ⟨z,rfl,-,rfl⟩;cases z
          all_goals go_wp2_with fail)
  .have hlt':¬(k:Int)<s.size:=Z;go_wp2_with fail;exact HQ.out _
theorem zVe(s:ByteArray)(hs:s.size<=2147483647)(w:World):Calls Tryz.prog 71 #[.string s] w (RqA w):=by
 have HQ:=RqA.mk (w:=w);have CR:=Hd (fF s 10 Z hs w);have C1:=Hd (gG (s.extract 1 s.size) 8 Z (jM hs) w);have C2:=Hd (gG (s.extract 2 s.size) 2 Z (jM hs) w);have C8:=Hd (gG (s.extract 2 s.size) 8 Z (jM hs) w);have C16:=Hd (gG (s.extract 2 s.size) 16 Z (jM hs) w);have D1:=Hd (zAp s 98 66 hs w);have D2:=Hd (zAp s 111 79 hs w);have D3:=Hd (zAp s 120 88 hs w);generalize RqA w=Q at HQ ⊢;generalize he0:(s.toList==[48])=e0 at *;go_enter Tryz.func71,Tryz.ntmps71;cases e0 with
 |true =>
  go_wp2_with fail;exact HQ.out _
 |false =>
 go_wp2_with fail;refine CR.out.mono ?_;rintro e w' ⟨z,rfl,hz,rfl⟩;by_cases hp:2<=s.size
 .have h0':(0:Int)<s.size:=Z;have h1':(1:Int)<s.size:=Z;have h1'':(1:Int)<=s.size:=Z;have h2'':(2:Int)<=s.size:=Z;have y0:=zL s 0 Z;clear hz CR;generalize bt s 0=c at *;rcases zAx c 48 48 rfl with⟨d1,d2⟩|rfl<;>cases z;all_goals
   go_wp2_with fail
   repeat' first
    |exact HQ.out _
    | (refine C1.out.mono ?_
       rintro e w' ⟨z,rfl,rfl⟩;cases z
       all_goals go_wp2_with fail)
    | (refine D1.out.mono ?_
       rintro e w' ⟨z,rfl,-,rfl⟩;cases z
       all_goals go_wp2_with fail)
    | (refine D2.out.mono ?_
       rintro e w' ⟨z,rfl,-,rfl⟩;cases z
       all_goals go_wp2_with fail)
    | (refine D3.out.mono ?_
       rintro e w' ⟨z,rfl,-,rfl⟩;cases z
       all_goals go_wp2_with fail)
    | (refine C2.out.mono ?_
       rintro e w' ⟨z,rfl,rfl⟩;go_wp2_with fail)
    | (refine C8.out.mono ?_
       rintro e w' ⟨z,rfl,rfl⟩;go_wp2_with fail)
    | (refine C16.out.mono ?_
       rintro e w' ⟨z,rfl,rfl⟩;go_wp2_with fail)
 .have h1':¬(1:Int)<s.size:=Z;have E1:=Hd (λe w' h=>RqB.no (e:=e) (w':=w') h (λg=>hp (g rfl)):∀e w',RqB (λz=>z=true->2<=s.size) w e w'->_);cases z with
  |false =>
   go_wp2_with fail;refine D1.out.mono ?_;intro e w' h;obtain⟨rfl,rfl⟩:=E1.out _ _ h;go_wp2_with fail;refine D2.out.mono ?_;intro e w' h;obtain⟨rfl,rfl⟩:=E1.out _ _ h;go_wp2_with fail;refine D3.out.mono ?_;intro e w' h;obtain⟨rfl,rfl⟩:=E1.out _ _ h;go_wp2_with fail;exact HQ.out _
  |true =>
   have h0:=hz rfl;have h0':(0:Int)<s.size:=Z;have y0:=zL s 0 h0;clear hz;generalize bt s 0=c at *;rcases zAx c 48 48 rfl with⟨d1,d2⟩|rfl
   .go_wp2_with fail;exact HQ.out _
   .go_wp2_with fail;refine D1.out.mono ?_;intro e w' h;obtain⟨rfl,rfl⟩:=E1.out _ _ h;go_wp2_with fail;refine D2.out.mono ?_;intro e w' h;obtain⟨rfl,rfl⟩:=E1.out _ _ h;go_wp2_with fail;refine D3.out.mono ?_;intro e w' h;obtain⟨rfl,rfl⟩:=E1.out _ _ h;go_wp2_with fail;exact HQ.out _
theorem zLn(s:ByteArray)(hs:s.size<=2147483647)(w:World):Calls Tryz.prog 72 #[.string s] w (RqA w):=by
 have HQ:=RqA.mk (w:=w);have CD:=Hd (zAp s 120 88 hs w);have C0:=Hd (zGc s 10 Z false hs w);have CP:=Hd (λ(p:ByteArray) x y i j (hp:p.size<=2147483647)=>zXt (p.extract i j) x y (jM hp) w);have CQ:=Hd (λ(p:ByteArray) b hb h i j (hp:p.size<=2147483647)=>zGc (p.extract i j) b hb h (jM hp) w);have CU:=Hd (λ(p:ByteArray) b hb i j (hp:p.size<=2147483647)=>gG (p.extract i j) b hb (jM hp) w);have CR:=Hd (λ(p:ByteArray) b hb i j (hp:p.size<=2147483647)=>fF (p.extract i j) b hb (jM hp) w);have hX:(s.extract 2 s.size).size<=2147483647:=jM hs;generalize RqA w=Q at HQ ⊢;go_enter Tryz.func72,Tryz.ntmps72;go_wp2_with fail;refine CD.out.mono ?_;rintro e w' ⟨z,rfl,hz,rfl⟩;cases z with
 |true =>
  have h2':(2:Int)<=s.size:=by have:=hz rfl;omega
  clear hz;go_wp2_with fail;generalize s.extract 2 s.size=t at *;go_loopw [4] (λi wr=>∃k:Nat,i=.int .i64 k/\k<=t.size+1/\wr=w) (λi _=>t.size+1-(intOf i).toNat)
  case atStart=>exact⟨0,rfl,Nat.zero_le _,rfl⟩
  case round =>
   obtain⟨k,rfl,hk,rfl⟩:=hrel;by_cases hlt:k<=t.size
   .have hlt':(k:Int)<=t.size:=Z;have hk0:(0:Int)<=k:=Z;have hwk:IntKind.i64.wrap ((k:Int)+1)=((k+1:Nat):Int):=wI Z;have C1:=Hd (CP.out t 112 80 k t.size hX);have C2:=Hd (CQ.out t 16 Z true 0 k hX);have C3:=Hd (CU.out t 16 Z 0 k hX);go_wp2_with fail;refine C1.out.mono ?_;rintro e w' ⟨z,rfl,rfl⟩;cases z with
    |false =>
     go_wp2_with fail;exact⟨⟨k+1,congrArg (Value.int .i64) Z,Z,by first|trivial|rfl⟩,by simp only[intOf];omega⟩
    |true =>
     go_wp2_with fail;refine C2.out.mono ?_;rintro e w' ⟨z,rfl,rfl⟩;cases z with
     |true =>
      go_wp2_with fail;exact HQ.out _
     |false =>
      go_wp2_with fail;refine C3.out.mono ?_;rintro e w' ⟨z,rfl,rfl⟩;cases z with
      |true =>
       go_wp2_with fail;exact HQ.out _
      |false =>
       go_wp2_with fail;exact⟨⟨k+1,congrArg (Value.int .i64) Z,Z,by first|trivial|rfl⟩,by simp only[intOf];omega⟩
   .have hlt':¬(k:Int)<=t.size:=Z;go_wp2_with fail;exact HQ.out _
 |false =>
  clear hz;go_wp2_with fail;refine C0.out.mono ?_;rintro e w' ⟨z,rfl,rfl⟩;cases z with
  |true =>
   go_wp2_with fail;exact HQ.out _
  |false =>
  go_wp2_with fail;go_loopw [5] (λi wr=>∃k:Nat,i=.int .i64 k/\k<=s.size+1/\wr=w) (λi _=>s.size+1-(intOf i).toNat)
  case atStart=>exact⟨0,rfl,Nat.zero_le _,rfl⟩
  case round =>
   obtain⟨k,rfl,hk,rfl⟩:=hrel;by_cases hlt:k<=s.size
   .have hlt':(k:Int)<=s.size:=Z;have hk0:(0:Int)<=k:=Z;have hwk:IntKind.i64.wrap ((k:Int)+1)=((k+1:Nat):Int):=wI Z;have C1:=Hd (CP.out s 101 69 k s.size hs);have C2:=Hd (CQ.out s 10 Z false 0 k hs);have C3:=Hd (CR.out s 10 Z 0 k hs);go_wp2_with fail;refine C1.out.mono ?_;rintro e w' ⟨z,rfl,rfl⟩;cases z with
    |false =>
     go_wp2_with fail;exact⟨⟨k+1,congrArg (Value.int .i64) Z,Z,by first|trivial|rfl⟩,by simp only[intOf];omega⟩
    |true =>
     go_wp2_with fail;refine C2.out.mono ?_;rintro e w' ⟨z,rfl,rfl⟩;cases z with
     |true =>
      go_wp2_with fail;exact HQ.out _
     |false =>
      go_wp2_with fail;refine C3.out.mono ?_;rintro e w' ⟨z,rfl,-,rfl⟩;cases z with
      |true =>
       go_wp2_with fail;exact HQ.out _
      |false =>
       go_wp2_with fail;exact⟨⟨k+1,congrArg (Value.int .i64) Z,Z,by first|trivial|rfl⟩,by simp only[intOf];omega⟩
   .have hlt':¬(k:Int)<=s.size:=Z;go_wp2_with fail;exact HQ.out _
def RqK(w:World)(e:Ending)(w':World):Prop:=∃k:Int,e=.returned (.int .u8 k)/\w=w'
theorem yCm(s:ByteArray)(hs:s.size<=2147483647)(w:World):Calls Tryz.prog 43 #[.string s] w (RqK w):=by
 have HQ:Hid (∀k,RqK w (.returned (.int .u8 k)) w):=Hd λk=>⟨k,rfl,rfl⟩
 have C1:=Hd (zVe s hs w);have C2:=Hd (zLn s hs w);have D1:=Hd (zVe (s.extract 0 (s.size-1)) (jM hs) w);have D2:=Hd (zLn (s.extract 0 (s.size-1)) (jM hs) w);have D3:=Hd (fF (s.extract 0 (s.size-1)) 10 Z (jM hs) w);generalize RqK w=Q at HQ ⊢;go_enter Tryz.func43,Tryz.ntmps43;go_wp2_with fail;refine C1.out.mono ?_;rintro e w' ⟨z,rfl,rfl⟩;cases z with
 |true =>
  go_wp2_with fail;exact HQ.out _
 |false =>
 go_wp2_with fail;refine C2.out.mono ?_;rintro e w' ⟨z,rfl,rfl⟩;cases z with
 |true =>
  go_wp2_with fail;exact HQ.out _
 |false =>
 by_cases h1:1<s.size
 case neg =>
  have h1':¬(1:Int)<s.size:=Z;go_wp2_with fail;exact HQ.out _
 have h1':(1:Int)<s.size:=Z;have yl:=zL s (s.size-1) Z;have hwm:IntKind.i64.wrap ((s.size:Int)-1)=((s.size-1:Nat):Int):=wI Z;have hl1:((s.size-1:Nat):Int)<s.size:=Z;have hl2:(0:Int)<=((s.size-1:Nat):Int):=Z;have hl3:s.size-1<s.size:=Z;have hl4:(s.size:Int)-1<s.size:=Z;have hl5:(0:Int)<=(s.size:Int)-1:=Z;have hl6:((s.size:Int)-1).toNat=s.size-1:=Z;have hl7:((s.size-1:Nat):Int)<=s.size:=Z;have hl8:(s.size:Int)-1<=s.size:=Z;generalize bt s (s.size-1)=c at *;rcases zAx c 105 105 rfl with⟨d1,d2⟩|rfl
 .go_wp2_with fail;exact HQ.out _
 .go_wp2_with fail
  repeat' first
   |exact HQ.out _
   | (refine D1.out.mono ?_
      rintro e w' ⟨z,rfl,rfl⟩;cases z
      all_goals go_wp2_with fail)
   | (refine D2.out.mono ?_
      rintro e w' ⟨z,rfl,rfl⟩;cases z
      all_goals go_wp2_with fail)
   | (refine D3.out.mono ?_
      rintro e w' ⟨z,rfl,-,rfl⟩;cases z
      all_goals go_wp2_with fail)
end Go.Proofs.YtfpjdpdmgceciaaGreatDoor
