/- Layer 1 in plain Lean: what a character is, its form, which character begins at a place of a text; no program in sight. -/
import Derived.Laws.BytesArg
import Derived.Laws.Strings
import Derived.Lib.DecodeN
import Derived.Lib.RuneBytes
import Derived.Lib.Small
namespace Go.Proofs.YtfpjdpdmgceciaaGreatDoor
@[irreducible] def may(r:Int):Bool:=decide (0<=r)&&decide (r<=1114111)&&(decide (r<55296) || decide (57343<r))
theorem yZ(r:Int):may r=true↔0<=r/\r<=1114111/\(r<55296\/57343<r):=by unfold may;simp[and_assoc]
theorem yGh(r:Int):may r=false↔r<0\/1114111<r\/(55296<=r/\r<=57343):=by
 rw[<-Bool.not_eq_true,yZ];omega
def formZ(r:Int):List Int :=
 if may r=false then[]else if r<128 then[r]else if r<2048 then[192+r / 64,128+r % 64]
 else if r<65536 then[224+r / 4096,128+r / 64 % 64,128+r % 64]
 else[240+r / 262144,128+r / 4096 % 64,128+r / 64 % 64,128+r % 64]
@[irreducible] def form(r:Int):ByteArray:=strOfNums (formZ r)
theorem zFh{r:Int}(h:may r=false):form r=ByteArray.empty:=by
 unfold form formZ;rw[if_pos h];rfl
theorem yDy{r:Int}(h:may r=true)(h1:r<128):form r=strOfNums [r]:=by
 unfold form formZ;rw[if_neg (by simp[h]),if_pos h1]
theorem yDz{r:Int}(h:may r=true)(h1:128<=r)(h2:r<2048):form r=strOfNums [192+r / 64,128+r % 64]:=by
 unfold form formZ;rw[if_neg (by simp[h]),if_neg (by omega),if_pos h2]
theorem yEa{r:Int}(h:may r=true)(h1:2048<=r)(h2:r<65536):form r=strOfNums [224+r / 4096,128+r / 64 % 64,128+r % 64]:=by
 unfold form formZ;rw[if_neg (by simp[h]),if_neg (by omega),if_neg (by omega),if_pos h2]
theorem yEb{r:Int}(h:may r=true)(h1:65536<=r):form r=strOfNums [240+r / 262144,128+r / 4096 % 64,128+r / 64 % 64,128+r % 64]:=by
 unfold form formZ;rw[if_neg (by simp[h]),if_neg (by omega),if_neg (by omega),if_neg (by omega)]
def bt(s:ByteArray)(i:Nat):Nat:=(s.get! i).toNat
theorem yT(s:ByteArray)(i:Nat):bt s i<256:=by unfold bt;exact(s.get! i).toNat_lt
theorem get!_lt(s:ByteArray)(k:Nat)(h:k<s.size):s.get! k=s[k]'h:=by
 cases s with
 |mk d=>exact getElem!_pos d k h
theorem get!_ge(s:ByteArray)(k:Nat)(h:s.size<=k):s.get! k=0:=by
 cases s with
 |mk d=>exact getElem!_neg d k (by exact Nat.not_lt.2 h)
theorem get!_extract(s:ByteArray)(a b k:Nat)(h:a+k<b)(hb:b<=s.size):(s.extract a b).get! k=s.get! (a+k):=by
 have h1:k<(s.extract a b).size:=by simp;omega
 rw[get!_lt _ _ h1,get!_lt _ _ (by omega)];simp[ByteArray.getElem_extract]
theorem zL(s:ByteArray)(i:Nat)(h:i<s.size):(s[i]'h).toNat=bt s i:=by unfold bt;rw[get!_lt s i h]
@[irreducible] def rd(s:ByteArray)(i:Nat):Nat×Nat :=
 if i<s.size then(if(Utf8.decode s i).1=65533/\(Utf8.decode s i).2<2 then(0,0)else Utf8.decode s i)else(0,0)
def refAcc(s:ByteArray)(i n:Nat):Nat->Nat
 |0=>0
 |1=>if n<=1 then bt s i else bt s i % 2 ^ (7-n)
 |k+2=>64*refAcc s i n (k+1)+bt s (i+(k+1)) % 64
def refV(s:ByteArray)(i n:Nat):Nat:=refAcc s i n n
def refTry(s:ByteArray)(i n:Nat):Bool:=(form (refV s i n)).toList==(s.extract i (i+n)).toList
@[irreducible] def rdI(s:ByteArray)(i:Int):Nat×Nat:=if i<0 then(0,0)else rd s i.toNat
theorem yF(s:ByteArray)(i:Nat):rdI s i=rd s i:=by unfold rdI;rw[if_neg (by omega),Int.toNat_natCast]
theorem zVq{s:ByteArray}{i:Int}(h:i<0):rdI s i=(0,0):=by unfold rdI;rw[if_pos h]
theorem zEn(s:ByteArray)(i n:Nat)(h:i+n<=s.size):(s.extract i (i+n)).toList=(List.range n).map λk=>s.get! (i+k):=by
 apply List.ext_getElem
 .simp[ByteArray.toList_eq];have:s.data.size=s.size:=rfl;omega
 .intro k h1 h2;simp[ByteArray.toList_eq]at h1 ⊢;rw[get!_lt _ _ (by omega)];rfl
theorem xU(n:Nat)(h:n<256):(UInt8.ofNat n).toNat=n:=by simp;omega
theorem zCw(x:Int)(b:UInt8)(h0:0<=x)(h:x<256):(UInt8.ofNat x.toNat=b)↔x=(b.toNat:Int):=by
 constructor
 .intro e;have:=congrArg UInt8.toNat e;rw[xU _ (by omega)]at this;omega
 .intro e;apply UInt8.toNat.inj;rw[xU _ (by omega)];omega
theorem zHe(s:ByteArray)(i n:Nat)(h:i+n<=s.size) :
  refTry s i n=true↔(formZ (refV s i n)).map (λx=>UInt8.ofNat x.toNat)=(List.range n).map λk=>s.get! (i+k):=by
 unfold refTry;rw[zEn s i n h,beq_iff_eq];unfold form;rw[ByteArray.toList_eq,strOfNums_data]
theorem zAu{s:ByteArray}{i:Nat}(h:i<s.size):rd s i=if(Utf8.decode s i).1=65533/\(Utf8.decode s i).2<2 then(0,0)else Utf8.decode s i:=by
 unfold rd;rw[if_pos h]
theorem zDh(s:ByteArray)(i:Nat):refV s i 1=bt s i:=by simp[refV,refAcc]
theorem zDi(s:ByteArray)(i:Nat):refV s i 2=64*(bt s i % 32)+bt s (i+1) % 64:=by simp[refV,refAcc]
theorem zFi(s:ByteArray)(i:Nat):refV s i 3=64*(64*(bt s i % 16)+bt s (i+1) % 64)+bt s (i+2) % 64:=by simp[refV,refAcc]
theorem zFj(s:ByteArray)(i:Nat):refV s i 4=64*(64*(64*(bt s i % 8)+bt s (i+1) % 64)+bt s (i+2) % 64)+bt s (i+3) % 64:=by simp[refV,refAcc]
theorem zRg(s:ByteArray)(i:Nat)(h:i+1<=s.size):refTry s i 1=true↔bt s i<128:=by
 have hb:=yT s i;rw[zHe s i 1 h,zDh];unfold formZ;by_cases h1:bt s i<128
 .have hm:may (bt s i:Int)=true:=by rw[yZ];omega
  rw[if_neg (by simp[hm]),if_pos (by omega)];simp only[List.map_cons,List.map_nil,List.range_one,Nat.add_zero,List.cons.injEq,and_true];rw[zCw _ _ (by omega) (by omega)];simp only[h1,iff_true];rfl
 .have hm:may (bt s i:Int)=true:=by rw[yZ];omega
  rw[if_neg (by simp[hm]),if_neg (by omega),if_pos (by omega)];simp[h1]
theorem yHb(s:ByteArray)(i:Nat)(h:i+2<=s.size):refTry s i 2=true↔(bt s i / 32=6/\bt s (i+1) / 64=2/\128<=refV s i 2):=by
 have h0:=yT s i;have h1:=yT s (i+1);rw[zHe s i 2 h];have hv:refV s i 2<2048:=by rw[zDi];omega
 have hm:may (refV s i 2:Int)=true:=by rw[yZ];omega
 unfold formZ;rw[if_neg (by simp[hm])];have er:List.range 2=[0,1]:=rfl;rw[er];by_cases hl:(refV s i 2:Int)<128
 .rw[if_pos hl];simp;intros;omega
 .rw[if_neg hl,if_pos (by omega)];simp only[List.map_cons,List.map_nil,Nat.add_zero,List.cons.injEq,and_true];rw[zCw _ _ (by omega) (by omega),zCw _ _ (by omega) (by omega)];show _=(bt s i:Int)/\_=(bt s (i+1):Int)↔_;rw[zDi]at hl ⊢;omega
theorem yEc(s:ByteArray)(i:Nat)(h:i+3<=s.size):refTry s i 3=true↔(bt s i / 16=14/\bt s (i+1) / 64=2/\bt s (i+2) / 64=2/\2048<=refV s i 3/\may (refV s i 3)=true):=by
 have h0:=yT s i;have h1:=yT s (i+1);have h2:=yT s (i+2);rw[zHe s i 3 h];have hv:refV s i 3<65536:=by rw[zFi];omega
 unfold formZ;have er:List.range 3=[0,1,2]:=rfl;rw[er];by_cases hm:may (refV s i 3:Int)=true
 .rw[if_neg (by simp[hm])];by_cases ha:(refV s i 3:Int)<128
  .rw[if_pos ha];simp;intros;omega
  .rw[if_neg ha];by_cases hl:(refV s i 3:Int)<2048
   .rw[if_pos hl];simp;intros;omega
   .rw[if_neg hl,if_pos (by omega)];simp only[List.map_cons,List.map_nil,Nat.add_zero,List.cons.injEq,and_true,hm];rw[zCw _ _ (by omega) (by omega),zCw _ _ (by omega) (by omega),zCw _ _ (by omega) (by omega)];show _=(bt s i:Int)/\_=(bt s (i+1):Int)/\_=(bt s (i+2):Int)↔_;rw[zFi]at hl ⊢;omega
 .have hf:may (refV s i 3:Int)=false:=by simpa using hm
  rw[if_pos hf];simp[hf]
theorem yEd(s:ByteArray)(i:Nat)(h:i+4<=s.size):refTry s i 4=true↔(bt s i / 8=30/\bt s (i+1) / 64=2/\bt s (i+2) / 64=2/\bt s (i+3) / 64=2/\65536<=refV s i 4/\may (refV s i 4)=true):=by
 have h0:=yT s i;have h1:=yT s (i+1);have h2:=yT s (i+2);have h3:=yT s (i+3);rw[zHe s i 4 h];have hv:refV s i 4<2097152:=by rw[zFj];omega
 unfold formZ;have er:List.range 4=[0,1,2,3]:=rfl;rw[er];by_cases hm:may (refV s i 4:Int)=true
 .rw[if_neg (by simp[hm])];by_cases ha:(refV s i 4:Int)<128
  .rw[if_pos ha];simp;intros;omega
  .rw[if_neg ha];by_cases hl:(refV s i 4:Int)<2048
   .rw[if_pos hl];simp;intros;omega
   .rw[if_neg hl];by_cases hl3:(refV s i 4:Int)<65536
    .rw[if_pos hl3];simp;intros;omega
    .rw[if_neg hl3];have hm':=(yZ _).1 hm;simp only[List.map_cons,List.map_nil,Nat.add_zero,List.cons.injEq,and_true,hm];rw[zCw _ _ (by omega) (by omega),zCw _ _ (by omega) (by omega),zCw _ _ (by omega) (by omega),zCw _ _ (by omega) (by omega)];show _=(bt s i:Int)/\_=(bt s (i+1):Int)/\_=(bt s (i+2):Int)/\_=(bt s (i+3):Int)↔_;rw[zFj]at hl hl3 hm' ⊢;omega
 .have hf:may (refV s i 4:Int)=false:=by simpa using hm
  rw[if_pos hf];simp[hf]
theorem zCo(s:ByteArray)(i:Nat):Utf8.decode s i=Lib.decodeN (s.size-i) (bt s i) (bt s (i+1)) (bt s (i+2)) (bt s (i+3)):=Lib.decode_at s i
theorem zJp(s:ByteArray)(i n:Nat)(h1:1<=n)(h4:n<=4)(h:i+n<=s.size)(ht:refTry s i n=true):Utf8.decode s i=(refV s i n,n):=by
 have h0:=yT s i;have g1:=yT s (i+1);have g2:=yT s (i+2);have g3:=yT s (i+3);rw[zCo];have hn:n=1\/n=2\/n=3\/n=4:=by omega
 unfold Lib.decodeN;rcases hn with rfl|rfl|rfl|rfl
 .rw[zRg s i h]at ht;rw[zDh,if_pos ht]
 .rw[yHb s i h]at ht;rw[zDi]at ht ⊢;rw[if_neg (by omega),if_pos (by omega),if_pos (by omega)]
  congr 1;omega
 .rw[yEc s i h,yZ]at ht;rw[zFi]at ht ⊢;rw[if_neg (by omega),if_neg (by omega),if_pos (by omega),if_pos (by omega)]
  congr 1;omega
 .rw[yEd s i h,yZ]at ht;rw[zFj]at ht ⊢;rw[if_neg (by omega),if_neg (by omega),if_neg (by omega),if_pos (by omega),if_pos (by omega)]
  congr 1;omega
theorem zBt(s:ByteArray)(i n:Nat)(h1:1<=n)(h4:n<=4)(h:i+n<=s.size)(ht:refTry s i n=true):rd s i=(refV s i n,n):=by
 rw[zAu (by omega),zJp s i n h1 h4 h ht,if_neg];rintro⟨a,b⟩;have hn:n=1:=by simp at b;omega
 subst hn;rw[zRg s i h]at ht;simp[zDh]at a;omega
theorem zGn(s:ByteArray)(i:Nat)(hs:i<s.size)(h:∀n,1<=n->n<=4->i+n<=s.size->refTry s i n=false):Utf8.decode s i=(65533,1):=by
 have h0:=yT s i;have g1:=yT s (i+1);have g2:=yT s (i+2);have g3:=yT s (i+3);have t1:=h 1 (by omega) (by omega) (by omega);rw[<-Bool.not_eq_true,zRg s i (by omega)]at t1;rw[zCo];unfold Lib.decodeN;rw[if_neg t1];split
 .have t:=h 2 (by omega) (by omega) (by omega);rw[<-Bool.not_eq_true,yHb s i (by omega),zDi]at t;rw[if_neg (by omega)]
 .split
  .have t:=h 3 (by omega) (by omega) (by omega);rw[<-Bool.not_eq_true,yEc s i (by omega),yZ,zFi]at t;rw[if_neg (by omega)]
  .split
   .have t:=h 4 (by omega) (by omega) (by omega);rw[<-Bool.not_eq_true,yEd s i (by omega),yZ,zFj]at t;rw[if_neg (by omega)]
   .rfl
theorem zOc(s:ByteArray)(i:Nat)(h:∀n,1<=n->n<=4->i+n<=s.size->refTry s i n=false):rd s i=(0,0):=by
 by_cases hs:i<s.size
 .rw[zAu hs,zGn s i hs h,if_pos (by simp)]
 .unfold rd;rw[if_neg hs]
theorem zJq{s:ByteArray}{i:Nat}(h:s.size<=i):rd s i=(0,0):=by unfold rd;rw[if_neg (by omega)]
theorem xH(s:ByteArray)(i:Nat):(rd s i).2<=4/\i+(rd s i).2<=max i s.size:=by
 by_cases h:∃n,1<=n/\n<=4/\i+n<=s.size/\refTry s i n=true
 .obtain⟨n,h1,h4,hn,ht⟩:=h;rw[zBt s i n h1 h4 hn ht];simp;omega
 .rw[zOc s i λn h1 h4 hn=>by
   cases ht:refTry s i n
   .rfl
   .exact absurd ⟨n,h1,h4,hn,ht⟩ h]
  simp;omega
theorem yGi(s:ByteArray)(i n:Nat)(h1:1<=n)(h4:n<=4)(h:i+n<=s.size)(ht:refTry s i n=true):may (refV s i n)=true:=by
 have h0:=yT s i;have g1:=yT s (i+1);have hn:n=1\/n=2\/n=3\/n=4:=by omega
 rcases hn with rfl|rfl|rfl|rfl
 .rw[zRg s i h]at ht;rw[yZ,zDh];omega
 .rw[yZ,zDi];omega
 .rw[yEc s i h]at ht;exact ht.2.2.2.2
 .rw[yEd s i h]at ht;exact ht.2.2.2.2.2
theorem vP(s:ByteArray)(i:Nat)(hi:i<s.size) :
  (rd s i=(0,0)/\Utf8.decode s i=(65533,1))\/
  (1<=(rd s i).2/\(rd s i).2<=4/\i+(rd s i).2<=s.size/\may (rd s i).1=true/\form (rd s i).1=s.extract i (i+(rd s i).2)/\Utf8.decode s i=rd s i):=by
 by_cases h:∃n,1<=n/\n<=4/\i+n<=s.size/\refTry s i n=true
 .obtain⟨n,h1,h4,hn,ht⟩:=h;right;rw[zBt s i n h1 h4 hn ht];refine⟨h1,h4,hn,yGi s i n h1 h4 hn ht,?_,zJp s i n h1 h4 hn ht⟩;unfold refTry at ht;rw[beq_iff_eq,ByteArray.toList_eq,ByteArray.toList_eq]at ht;exact ByteArray.ext (Array.ext' ht)
 .have hh:∀n,1<=n->n<=4->i+n<=s.size->refTry s i n=false:=λn h1 h4 hn=>by
   cases ht:refTry s i n
   .rfl
   .exact absurd ⟨n,h1,h4,hn,ht⟩ h
  exact Or.inl ⟨zOc s i hh,zGn s i hi hh⟩
theorem zRh(s:ByteArray)(i:Nat):(rd s i).1<=1114111:=by
 by_cases hi:i<s.size
 .rcases vP s i hi with⟨h,_⟩|⟨_,_,_,h,_,_⟩
  .rw[h];simp
  .have:=(yZ _).1 h;omega
 .unfold rd;rw[if_neg hi];simp
def scanF:Nat->ByteArray->Nat->List Nat×Option Nat
 |0,_,_=>([],none)
 |f+1,s,i=>if i<s.size then(if(rd s i).2=0 then([],some i)else((rd s i).1::(scanF f s (i+(rd s i).2)).1,(scanF f s (i+(rd s i).2)).2))else([],none)
@[irreducible] def scan(s:ByteArray)(i:Nat):List Nat×Option Nat:=scanF (s.size-i) s i
theorem zUj(s:ByteArray):∀(f g i:Nat),s.size-i<=f->s.size-i<=g->scanF f s i=scanF g s i:=by
 intro f;induction f with
 |zero =>
  intro g i hf _;cases g with
  |zero=>rfl
  |succ g=>simp only[scanF];rw[if_neg (by omega)]
 |succ f ih =>
  intro g i hf hg;cases g with
  |zero=>simp only[scanF];rw[if_neg (by omega)]
  |succ g =>
   simp only[scanF];by_cases h:i<s.size
   .rw[if_pos h,if_pos h];by_cases h0:(rd s i).2=0
    .rw[if_pos h0,if_pos h0]
    .rw[if_neg h0,if_neg h0,ih g _ (by omega) (by omega)]
   .rw[if_neg h,if_neg h]
theorem gY{s:ByteArray}{i:Nat}(h:s.size<=i):scan s i=([],none):=by
 unfold scan;rw[show s.size-i=0 by omega];rfl
theorem zAb{s:ByteArray}{i:Nat}(h:i<s.size)(h0:(rd s i).2=0):scan s i=([],some i):=by
 unfold scan;obtain⟨f,hf⟩:∃f,s.size-i=f+1:=⟨s.size-i-1,by omega⟩;rw[hf];simp only[scanF];rw[if_pos h,if_pos h0]
theorem vU{s:ByteArray}{i:Nat}(h:i<s.size)(h0:(rd s i).2≠0):scan s i=((rd s i).1::(scan s (i+(rd s i).2)).1,(scan s (i+(rd s i).2)).2):=by
 unfold scan;obtain⟨f,hf⟩:∃f,s.size-i=f+1:=⟨s.size-i-1,by omega⟩;rw[hf];simp only[scanF];rw[if_pos h,if_neg h0,zUj s f (s.size-(i+(rd s i).2)) _ (by omega) (by omega)]
def badZ:Option Nat->Int
 |some i=>i
 |none=>-1
@[irreducible] def bad(s:ByteArray):Int:=badZ (scan s 0).2
@[irreducible] def chars(s:ByteArray):List Nat:=(scan s 0).1
theorem zRi(s:ByteArray)(C:Nat->Prop)(h1:∀i,s.size<=i->C i)(h2:∀i,i<s.size->(rd s i).2=0->C i)(h3:∀i,i<s.size->(rd s i).2≠0->C (i+(rd s i).2)->C i):∀i,C i:=by
 have key:∀n i,s.size-i<=n->C i:=by
  intro n;induction n with
  |zero=>intro i hi;exact h1 i (by omega)
  |succ n ih =>
   intro i hi;by_cases h:i<s.size
   .by_cases h0:(rd s i).2=0
    .exact h2 i h h0
    .exact h3 i h h0 (ih _ (by omega))
   .exact h1 i (by omega)
 exactλi=>key _ i (Nat.le_refl _)
theorem zBu(s:ByteArray)(i:Nat):(scan s i).1.length<=s.size-i:=by
 refine zRi s (λi=>(scan s i).1.length<=s.size-i) ?_ ?_ ?_ i
 .intro i h;rw[gY h];simp
 .intro i h h0;rw[zAb h h0];simp
 .intro i h h0 ih;have:=xH s i;rw[vU h h0];simp only[List.length_cons];omega
theorem fJ(s:ByteArray)(i:Nat):∀j,(scan s i).2=some j->i<=j/\j<s.size:=by
 refine zRi s (λi=>∀j,(scan s i).2=some j->i<=j/\j<s.size) ?_ ?_ ?_ i
 .intro i h j;rw[gY h];simp
 .intro i h h0 j;rw[zAb h h0];simp;omega
 .intro i h h0 ih j;rw[vU h h0];intro hj;have:=ih j hj;omega
theorem zOd(s:ByteArray):(chars s).length<=s.size:=by unfold chars;exact zBu s 0
theorem zHf(s:ByteArray):bad s<0↔(scan s 0).2=none:=by
 unfold bad badZ;cases h:(scan s 0).2 with
 |none=>simp
 |some j=>simp
theorem zKi(r:Int):Lib.validRune r=may r:=by
 rw[Bool.eq_iff_iff,yZ];unfold Lib.validRune;simp;omega
theorem zRj{r:Int}(h:may r=true):Utf8.encode r=form r:=by
 have hm:=(yZ r).1 h;have hv:Utf8.valid r=true:=by unfold Utf8.valid;simp;omega
 obtain⟨n,rfl⟩:=Int.eq_ofNat_of_zero_le hm.1;unfold Utf8.encode;simp only[hv,if_true,Int.toNat_natCast];by_cases h1:n<128
 .rw[yDy h (by omega),if_pos h1];rfl
 .by_cases h2:n<2048
  .rw[yDz h (by omega) (by omega),if_neg h1,if_pos h2];unfold strOfNums;simp only[List.map_cons,List.map_nil];rw[show(192+(n:Int) / 64).toNat=192+n / 64 by omega,show(128+(n:Int) % 64).toNat=128+n % 64 by omega]
  .by_cases h3:n<65536
   .rw[yEa h (by omega) (by omega),if_neg h1,if_neg h2,if_pos h3];unfold strOfNums;simp only[List.map_cons,List.map_nil];rw[show(224+(n:Int) / 4096).toNat=224+n / 4096 by omega,show(128+(n:Int) / 64 % 64).toNat=128+n / 64 % 64 by omega,show(128+(n:Int) % 64).toNat=128+n % 64 by omega]
   .rw[yEb h (by omega),if_neg h1,if_neg h2,if_neg h3];unfold strOfNums;simp only[List.map_cons,List.map_nil];rw[show(240+(n:Int) / 262144).toNat=240+n / 262144 by omega,show(128+(n:Int) / 4096 % 64).toNat=128+n / 4096 % 64 by omega,show(128+(n:Int) / 64 % 64).toNat=128+n / 64 % 64 by omega,show(128+(n:Int) % 64).toNat=128+n % 64 by omega]
end Go.Proofs.YtfpjdpdmgceciaaGreatDoor
