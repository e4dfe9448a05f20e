/- Layer 6 in plain Lean: items, texts in marks, quoting; no program in sight. -/
import Derived.Test.YtfpjdpdmgceciaaGreatDoorU8bTg
import Derived.Lib.Replace
namespace Go.Proofs.YtfpjdpdmgceciaaGreatDoor
set_option linter.all false
def nums(s:ByteArray):List Int:=s.data.toList.map λb=>(b.toNat:Int)
theorem zIn(s:ByteArray):strOfNums (nums s)=s:=by
 apply ByteArray.ext;apply Array.ext';rw[strOfNums_data];unfold nums;rw[List.map_map]
 conv=>rhs;rw[<-List.map_id s.data.toList]
 apply List.map_congr_left;intro b _;simp
theorem zBo(s:ByteArray):(nums s).length=s.size:=by unfold nums;rw[List.length_map,<-size_data]
theorem zIo(l:List Int)(h:∀x∈l,0<=x/\x<256):nums (strOfNums l)=l:=by
 unfold nums;rw[strOfNums_data,List.map_map]
 conv=>rhs;rw[<-List.map_id l]
 apply List.map_congr_left;intro x hx;have:=h x hx;simp only[Function.comp,id];rw[xU _ (by omega)];omega
def num(s:ByteArray)(b:Int):Nat->Nat->Int->Option Int
 |_,0,n=>some n
 |i,c+1,n=>if i<s.size/\0<=base (bt s i)/\base (bt s i)<b then num s b (i+1) c (n*b+base (bt s i))else none
theorem zSz(r:Int):-1<=base r/\base r<16:=by
 unfold base;split
 .omega
 .split
  .omega
  .split<;>omega
theorem kJ(s:ByteArray)(b:Int)(hb:0<b):∀(c i:Nat)(n m:Int),0<=n->num s b i c n=some m->0<=m/\m<(n+1)*b ^ c/\i+c<=max i s.size
 |0,i,n,m,hn,h=>by
  unfold num at h;obtain rfl:=Option.some.inj h;refine⟨hn,?_,by omega⟩;rw[Int.pow_zero];omega
 |c+1,i,n,m,hn,h=>by
  unfold num at h;split at h
  .rename_i hc;obtain⟨h1,h2,h3⟩:=hc;obtain⟨g1,g2,g3⟩:=kJ s b hb c (i+1) _ m (by have:=Int.mul_nonneg hn (Int.le_of_lt hb);omega) h;refine⟨g1,Int.lt_of_lt_of_le g2 ?_,by omega⟩;rw[Int.pow_succ,Int.mul_comm (b ^ c) b,<-Int.mul_assoc];apply Int.mul_le_mul_of_nonneg_right
   .rw[Int.add_mul];omega
   .exact Int.le_of_lt (Int.pow_pos hb)
  .cases h
def kP:List Nat:=[97,98,102,110,114,116,118,92]
def escSays:List Int:=[7,8,12,10,13,9,11,92]
def small(n:Int)(mark:Nat):List Int:=if mark=34 then[n]else formZ n
def esc(s:ByteArray)(i mark:Nat):Option (Nat×List Int) :=
 if s.size<=i+1 then none
 else if kP.idxOf (bt s (i+1))<8 then some (2,[escSays.getD (kP.idxOf (bt s (i+1))) 0])
 else if bt s (i+1)=mark then some (2,[(bt s (i+1):Int)])
 else if bt s (i+1)=120 then(num s 16 (i+2) 2 0).map λn=>(4,small n mark)
 else if bt s (i+1)=117\/bt s (i+1)=85 then
  (num s 16 (i+2) (if bt s (i+1)=85 then 8 else 4) 0).bind λn=>if may n then some (2+(if bt s (i+1)=85 then 8 else 4),formZ n)else none
 else(num s 8 (i+1) 3 0).bind λn=>if 255<n then none else some (4,small n mark)
def item(s:ByteArray)(i mark:Nat):Option (Nat×List Int) :=
 if bt s i=92 then esc s i mark
 else if bt s i=10 then none
 else if mark=34 then some (1,[(bt s i:Int)])
 else if(rd s i).2=0 then none
 else some ((rd s i).2,nums (s.extract i (i+(rd s i).2)))
theorem zVb{s:ByteArray}{i mark n:Nat}{l:List Int}(h:esc s i mark=some (n,l)):2<=n/\i+n<=s.size:=by
 unfold esc at h;split at h
 .cases h
 .split at h
  .cases h;omega
  .split at h
   .cases h;omega
   .split at h
    .cases hn:num s 16 (i+2) 2 0 with
     |none=>rw[hn]at h;cases h
     |some v =>
      rw[hn]at h;have:=kJ s 16 (by omega) 2 (i+2) 0 v (by omega) hn;cases h;omega
    .split at h
     .cases hn:num s 16 (i+2) (if bt s (i+1)=85 then 8 else 4) 0 with
      |none=>rw[hn]at h;cases h
      |some v =>
       rw[hn]at h;have:=kJ s 16 (by omega) _ (i+2) 0 v (by omega) hn;simp only[Option.bind_some]at h;split at h
       .cases h;split at this<;>simp_all<;>omega
       .cases h
     .cases hn:num s 8 (i+1) 3 0 with
      |none=>rw[hn]at h;cases h
      |some v =>
       rw[hn]at h;have:=kJ s 8 (by omega) 3 (i+1) 0 v (by omega) hn;simp only[Option.bind_some]at h;split at h
       .cases h
       .cases h;omega
theorem jI{s:ByteArray}{i mark n:Nat}{l:List Int}(hi:i<s.size)(h:item s i mark=some (n,l)):1<=n/\i+n<=s.size:=by
 unfold item at h;split at h
 .have:=zVb h;omega
 .split at h
  .cases h
  .split at h
   .cases h;omega
   .split at h
    .cases h
    .rename_i h0;cases h
     have:=xH s i;omega
def body(s:ByteArray)(i:Nat):Option (Nat×List Int) :=
 if hi:i<s.size then
  if bt s i=34 then some (i+1,[])
  else match h:item s i 34 with
   |none=>none
   |some (n,l)=>(body s (i+n)).map λp=>(p.1,l++p.2)
 else none
termination_by s.size-i
decreasing_by have:=jI hi h;omega
def raw(s:ByteArray)(i:Nat):Option (Nat×List Int) :=
 if i<s.size then
  if bt s i=96 then some (i+1,[])
  else(raw s (i+1)).map λp=>(p.1,(if bt s i=13 then[]else[(bt s i:Int)])++p.2)
 else none
termination_by s.size-i
def single(s:ByteArray)(i:Nat):Option (Nat×List Int) :=
 if i<s.size then
  if bt s i=39 then none
  else match item s i 39 with
   |none=>none
   |some (n,l)=>if i+n<s.size/\bt s (i+n)=39 then some (i+n+1,l)else none
 else none
def begunAt(s:ByteArray)(i:Nat):Int×Int×ByteArray×Int :=
 if bt s i=96 then match raw s (i+1)with
  |none=>(0,0,ByteArray.empty,4)
  |some (e,l)=>(7,e,strOfNums l,0)
 else if bt s i=34 then match body s (i+1)with
  |none=>(0,0,ByteArray.empty,4)
  |some (e,l)=>(7,e,strOfNums l,0)
 else match single s (i+1)with
  |none=>(0,0,ByteArray.empty,4)
  |some (e,l)=>(6,e,strOfNums l,0)
def isMark(b:Nat):Bool:=b==39 || b==34 || b==96
@[irreducible] def begun(s:ByteArray)(at':Int):Int×Int×ByteArray×Int :=
 if at'<0\/(s.size:Int)<=at' then(0,0,ByteArray.empty,15)
 else if isMark (bt s at'.toNat)then begunAt s at'.toNat else(0,0,ByteArray.empty,15)
@[irreducible] def value(s:ByteArray):ByteArray×Int :=
 if(begun s 0).2.2.2=0/\(begun s 0).2.1=s.size then((begun s 0).2.2.1,0)else(ByteArray.empty,4)
theorem yA(s:ByteArray)(a b:Nat):(s.extract a b).data.toList=(s.data.toList.drop a).take (b-a):=by
 rw[ByteArray.data_extract,Array.toList_extract,List.extract]
theorem yBx(c:UInt8)(t:List UInt8):Lib.index (c::t) [c]=0:=by
 unfold Lib.index;rw[if_pos (by simp[List.isPrefixOf])]
theorem yBy(b c:UInt8)(t:List UInt8)(h:b≠c):Lib.index (b::t) [c]=if Lib.index t [c]==-1 then -1 else Lib.index t [c]+1:=by
 rw[Lib.index,if_neg];simp[List.isPrefixOf,Ne.symm h]
theorem jT(c:UInt8):∀(l:List UInt8)(k:Nat),l.count c=k->Lib.replaceK [c] [] k l=l.filter λx=>x != c
 |[],k,h=>by
  obtain rfl:k=0:=by simpa using h.symm
  rfl
 |b::t,k,h=>by
  by_cases hb:b=c
  .subst hb;rw[List.count_cons_self]at h;subst h;rw[Lib.replaceK_hit [b] [] _ (b::t) 0 (yBx b t)];simp only[List.take_zero,List.nil_append,List.length_cons,List.length_nil,Nat.zero_add,List.drop_one,List.tail_cons];rw[jT b t _ rfl];simp
  .rw[List.count_cons_of_ne hb]at h;have ih:=jT c t k h;cases k with
   |zero =>
    have h2:(b::t).filter (λx=>x != c)=b::t:=by
     rw[List.filter_eq_self];intro x hx;rcases List.mem_cons.1 hx with rfl|hx
     .simp[hb]
     .have:=List.count_eq_zero.1 h;simp only[bne_iff_ne,ne_eq];rintro rfl;exact this hx
    rw[h2];rfl
   |succ k =>
    obtain⟨i,hi⟩:=Lib.index_of_count (s:=t) (old:=[c]) (by rw[Lib.count_one];omega);have h1:Lib.index (b::t) [c]=(i+1:Nat):=by
     rw[yBy b c t hb,hi,if_neg (by simp)];omega
    rw[Lib.replaceK_hit [c] [] k (b::t) (i+1) h1];rw[Lib.replaceK_hit [c] [] k t i hi]at ih;simp only[List.take_succ_cons,List.append_nil,List.length_cons,List.length_nil,Nat.zero_add,List.cons_append,List.drop_succ_cons]at ih ⊢;rw[ih,List.filter_cons_of_pos (by simp[hb])]
theorem zDv(c:UInt8)(l:List UInt8):Lib.replaceAll l [c] []=l.filter λx=>x != c:=by
 unfold Lib.replaceAll Lib.replace;rw[if_neg (by simp)];unfold Lib.replaceNum;rw[if_pos (Or.inl (by decide)),Lib.count_one];exact jT c l _ rfl
def numsL(l:List UInt8):List Int:=l.map λb=>(b.toNat:Int)
theorem zLk(s:ByteArray):∀(l:List UInt8)(i:Nat),s.data.toList.drop i=l->
  raw s i=if Lib.indexByte l 96<0 then none else some (i+(Lib.indexByte l 96).toNat+1,numsL ((l.take (Lib.indexByte l 96).toNat).filter λx=>x != 13))
 |[],i,h=>by
  have hlen:=congrArg List.length h;rw[List.length_drop,<-size_data]at hlen;unfold raw;rw[if_neg (by simp at hlen;omega),if_pos (by decide)]
 |b::t,i,h=>by
  have hlen:=congrArg List.length h;rw[List.length_drop,<-size_data]at hlen;have hi:i<s.size:=by simp at hlen;omega
  have hb:bt s i=b.toNat:=by
   unfold bt;rw[get!_list];have h1:(s.data.toList.drop i)[0]?=some b:=by rw[h];rfl
   rw[List.getElem?_drop,Nat.add_zero]at h1;rw[List.getD_eq_getElem?_getD,h1];rfl
  have ht:s.data.toList.drop (i+1)=t:=by
   have:(s.data.toList.drop i).drop 1=t:=by rw[h];rfl
   rwa [List.drop_drop]at this
  have ih:=zLk s t (i+1) ht;unfold raw;rw[if_pos hi,hb,ih];have hge:=Lib.indexByte_ge t 96;by_cases h96:b=96
  .subst h96;rw[if_pos (by decide)];have h0:Lib.indexByte (96::t) 96=0:=by unfold Lib.indexByte;rw[if_pos (by decide)]
   rw[h0,if_neg (by decide)];simp[numsL]
  .have hn:b.toNat≠96:=λe=>h96 (UInt8.toNat_inj.1 (by rw[e];rfl))
   rw[if_neg hn];have h0:Lib.indexByte (b::t) 96=if Lib.indexByte t 96==-1 then -1 else Lib.indexByte t 96+1:=by
    rw[Lib.indexByte,if_neg (by simpa using h96)]
   rw[h0];by_cases hm:Lib.indexByte t 96=-1
   .rw[hm];rfl
   .have e2:(if Lib.indexByte t 96==-1 then(-1:Int)else Lib.indexByte t 96+1)=Lib.indexByte t 96+1:=by rw[if_neg (by simpa using hm)]
    have hl1:¬(Lib.indexByte t 96<0):=by omega
    have hl2:¬(Lib.indexByte t 96+1<0):=by omega
    rw[e2,if_neg hl1,if_neg hl2];obtain⟨k,hk⟩:∃k:Nat,Lib.indexByte t 96=k:=⟨_,(Int.toNat_of_nonneg (by omega)).symm⟩;rw[hk];have e3:((k:Int)+1).toNat=k+1:=by omega
    rw[e3,Int.toNat_natCast];simp only[Option.map_some,List.take_succ_cons]
    congr 2
    .omega
    .unfold numsL;by_cases h13:b=13
     .subst h13;simp
     .have hn13:b.toNat≠13:=λe=>h13 (UInt8.toNat_inj.1 (by rw[e];rfl))
      rw[if_neg hn13,List.filter_cons_of_pos (by simpa using h13)];rfl
theorem zGr(l:List UInt8):strOfNums (numsL l)=⟨l.toArray⟩:=by
 have:=zIn ⟨l.toArray⟩;unfold nums at this
 simpa[numsL]using this
theorem yBz(s:ByteArray)(i:Nat):raw s i=if Lib.indexByte (s.extract i s.size).data.toList 96<0 then none else
  some (i+(Lib.indexByte (s.extract i s.size).data.toList 96).toNat+1,numsL (Lib.replaceAll (s.extract i (i+(Lib.indexByte (s.extract i s.size).data.toList 96).toNat)).data.toList [13] [])):=by
 have e:(s.extract i s.size).data.toList=s.data.toList.drop i:=by
  rw[yA,List.take_of_length_le];rw[List.length_drop,<-size_data];omega
 rw[zLk s _ i rfl,e,zDv,yA,Nat.add_sub_cancel_left]
theorem zBp(c:UInt8):∀l:List UInt8,Lib.indexByte l c=-1\/Lib.indexByte l c<l.length
 |[]=>Or.inl rfl
 |b::t=>by
  have ih:=zBp c t;unfold Lib.indexByte;by_cases h:(b==c)=true
  .rw[if_pos h];right;simp only[List.length_cons];omega
  .rw[if_neg h];by_cases h2:(Lib.indexByte t c==-1)=true
   .rw[if_pos h2];exact Or.inl rfl
   .rw[if_neg h2];right;simp only[List.length_cons];have h3:Lib.indexByte t c≠-1:=by simpa using h2
    omega
theorem yB(s y:ByteArray)(i:Nat)(h:i<s.size):bt (s++y) i=bt s i:=by unfold bt;rw[get!_left _ _ _ h]
theorem zNl(m y:ByteArray)(i:Nat)(h0:(rd (m++y) i).2≠0)(h:i+(rd (m++y) i).2<=m.size):rd m i=rd (m++y) i:=by
 have hi:i<(m++y).size:=by rw[ByteArray.size_append];omega
 rcases vP (m++y) i hi with⟨hc,_⟩|⟨h1,h4,hn,hmay,hform,_⟩
 .exact absurd (by rw[hc]) h0
 .generalize hq:rd (m++y) i=q at *;obtain⟨r,n⟩:=q;simp only[]at *;have hsz:(form r).size=n:=by rw[hform,ByteArray.size_extract];omega
  have hr:=zLu m i r hmay (by omega) (λk hk=>by
   rw[hform,get!_extract (m++y) i (i+n) k (by omega) hn,get!_left m y (i+k) (by omega)])
  rw[hr,hsz,Int.toNat_natCast]
theorem zCs(s:ByteArray):s.extract 0 s.size=s:=by
 apply ByteArray.ext;apply Array.ext';rw[yA,List.drop_zero,List.take_of_length_le (by rw[<-size_data];omega)]
theorem zTa(s:ByteArray)(k:Nat)(h:k<=s.size):s.extract 0 k++s.extract k s.size=s:=by
 rw[jP s 0 k s.size (Nat.zero_le _) h,zCs]
end Go.Proofs.YtfpjdpdmgceciaaGreatDoor
