/- Layer 7 in plain Lean: a lexeme goes on, and all lexemes of a text. -/
import Derived.Test.YtfpjdpdmgceciaaGreatDoorScanPTg
import Derived.Test.YtfpjdpdmgceciaaGreatDoorQuoted6Tg
import Derived.Test.YtfpjdpdmgceciaaGreatDoorCoreTg
import Derived.Test.YtfpjdpdmgceciaaGreatDoorScan1Tg
namespace Go.Proofs.YtfpjdpdmgceciaaGreatDoor
set_option linter.all false
theorem vF{s:ByteArray}{i:Nat}(hi:i<s.size)(h:bt s i<128):rd s i=(bt s i,1):=by
 have:=zBt s i 1 Z Z Z ((zRg s i Z).2 h);rw[this,zDh]
theorem zOr{s:ByteArray}{i:Nat}(h0:(rd s i).1≠0)(h:(rd s i).1<128):bt s i=(rd s i).1:=by
 have hi:i<s.size:=by
  rcases Nat.lt_or_ge i s.size with h|h'
  .exact h
  .rw[zJq h']at h0;exact absurd rfl h0
 by_cases hb:bt s i<128
 .rw[vF hi hb]
 .exfalso;rcases vP s i hi with⟨hc,_⟩|⟨h1,h4,hn,hmay,hform,_⟩
  .rw[hc]at h0;exact h0 rfl
  .have h2:=vZ ((rd s i).1:Int) 0 ((rd s i).1:Int) (by unfold formZ;rw[iN (by simp[hmay]),iP Z];rfl) Z Z;rw[hform]at h2;unfold bt at h2 hb;rw[get!_extract s i _ 0 Z hn,Nat.add_zero]at h2;omega
theorem zLy{s:ByteArray}{i:Nat}(h0:(rd s i).1≠0):(rd s i).2≠0/\i+(rd s i).2<=s.size:=by
 have hi:i<s.size:=by
  rcases Nat.lt_or_ge i s.size with h|h'
  .exact h
  .rw[zJq h']at h0;exact absurd rfl h0
 rcases vP s i hi with⟨hc,_⟩|⟨h1,h4,hn,_⟩
 .rw[hc]at h0;exact absurd rfl h0
 .exact⟨Z,hn⟩
theorem zFs:letter 0=false:=by unfold letter;decide +kernel
theorem zSa{s:ByteArray}{i:Nat}(h:blank (rd s i).1=true):i<s.size/\blankB (bt s i)=true:=by
 have h4:(rd s i).1=32\/(rd s i).1=9\/(rd s i).1=10\/(rd s i).1=13:=by
  unfold blank at h;simp at h;omega
 have hi:=(zLy (s:=s) (i:=i) Z);have hb:=zOr (s:=s) (i:=i) Z Z;refine⟨Z,?_⟩;rw[hb];rcases h4 with h|h|h|h<;>rw[h]<;>rfl
theorem zBh(s:ByteArray)(i:Nat)(hi:i<s.size)(h:(lex s i).1≠0):∃e:Nat,(lex s i).2=e/\i<e/\e<=s.size:=by
 unfold lex at h ⊢;split
 .rename_i h1;have:=zLy (s:=s) (i:=i) Z;exact⟨_,rfl,Z,this.2⟩
 .rename_i h1;rw[iN h1]at h;split
  .rename_i h2;obtain⟨g1,g2⟩:=zSa h2;refine⟨_,rfl,?_,(zAr s i Z).2⟩;rw[blankTo,iP ⟨g1,g2⟩];have:=zAr s (i+1) Z;omega
  .rename_i h2;rw[iN h2]at h;split
   .rename_i h3;refine⟨_,rfl,?_,(zFd s i Z).2⟩;rw[lineTo,iP ⟨Z,Z⟩];have:=zFd s (i+1) Z;omega
   .rename_i h3;rw[iN h3]at h;split
    .rename_i h4;rw[iP h4]at h;cases hb:blockTo s (i+2)with
     |none=>rw[hb]at h;exact absurd rfl h
     |some e =>
      have:=zDd s (i+2) e hb;exact⟨e,rfl,Z,this.2⟩
    .rename_i h4;rw[iN h4]at h;split
     .rename_i h5;have h0:(rd s i).1≠0:=λh0=>by rw[h0]at h5;have:=zFs;simp_all
      have hp:=zLy h0;have hw:inWord s i=true:=by unfold inWord;simp[hp.1,h5]
      have hg:i<wordTo s i/\wordTo s i<=s.size:=by
       refine⟨?_,(gH s i Z).2⟩;rw[wordTo,dif_pos ⟨hi,hw⟩];have:=gH s (i+(rd s i).2) hp.2;omega
      split
      .exact⟨_,rfl,hg⟩
      .exact⟨_,rfl,hg⟩
     .rename_i h5;rw[iN h5]at h;split
      .exact⟨_,rfl,Z,Z⟩
      .rename_i h6;rw[iN h6]at h;split
       .rename_i h7;rw[iP h7]at h;unfold numScan at h ⊢;split
        .rename_i h8;rw[iP h8]at h;rw[Int.toNat_natCast]at h8 h ⊢;have:=zFc h8.2;split
         .exact⟨_,rfl,this⟩
         .rename_i h9;rw[iN h9]at h;exact absurd rfl h
        .rename_i h8;rw[iN h8]at h;exact absurd rfl h
       .rename_i h7;rw[iN h7]at h;split
        .rename_i h8;rw[iP h8]at h;have he:=zCl s i h;obtain⟨j,n,g1,g2,g3,g4,_⟩:=jL s i (begun s i).1 (begun s i).2.1 (begun s i).2.2.1 (by rw[<-he]);exact⟨n,g2,Z,g4⟩
        .rename_i h8;rw[iN h8]at h;split
         .rename_i h9;refine⟨_,rfl,Z,?_⟩;have hl:signL (zA (s.extract i s.size))<=(zA (s.extract i s.size)).length:=by
           unfold signL;obtain⟨l3,l2,l1⟩:=(show(∀l∈signs3,l.length=3)/\(∀l∈signs2,l.length=2)/\(∀l∈signs1,l.length=1)by decide +kernel);split
           .rename_i g;have:=l3 _ (List.contains_iff_mem.1 g);rw[List.length_take]at this;omega
           .split
            .rename_i g;have:=l2 _ (List.contains_iff_mem.1 g);rw[List.length_take]at this;omega
            .split
             .rename_i g;have:=l1 _ (List.contains_iff_mem.1 g);rw[List.length_take]at this;omega
             .omega
          rw[zH,ByteArray.size_extract]at hl;omega
         .rename_i h9;rw[iN h9]at h;exact absurd rfl h
def alls(s:ByteArray)(i:Nat):List (Int×Nat×Nat)×Option Nat :=
 if h:i<s.size then
  if hk:(lex s i).1≠0 then(((lex s i).1,i,(lex s i).2.toNat)::(alls s (lex s i).2.toNat).1,(alls s (lex s i).2.toNat).2)
  else([],some i)
 else([],none)
termination_by s.size-i
decreasing_by
 obtain⟨e,h1,h2,h3⟩:=zBh s i h hk;rw[h1];simp only[Int.toNat_natCast];omega
theorem gN{s:ByteArray}{i:Nat}(h:¬i<s.size):alls s i=([],none):=by rw[alls,dif_neg h]
theorem fO{s:ByteArray}{i:Nat}(h:i<s.size)(hk:(lex s i).1=0):alls s i=([],some i):=by rw[alls,dif_pos h,dif_neg (by simpa using hk)]
theorem vI{s:ByteArray}{i e:Nat}{k:Int}(h:i<s.size)(hl:lex s i=(k,(e:Int)))(hk:k≠0):alls s i=((k,i,e)::(alls s e).1,(alls s e).2):=by
 rw[alls,dif_pos h,dif_pos (by rw[hl];exact hk),hl];simp only[Int.toNat_natCast]
theorem zHo(s:ByteArray)(i:Nat):(alls s i).1.length<=s.size-i:=by
 by_cases h:i<s.size
 .by_cases hk:(lex s i).1=0
  .rw[fO h hk];simp
  .obtain⟨e,h1,h2,h3⟩:=zBh s i h hk;have:=zHo s e;rw[vI h (show lex s i=((lex s i).1,(e:Int))by rw[<-h1]) hk];simp only[lC];omega
 .rw[gN h];simp
termination_by s.size-i
decreasing_by omega
@[irreducible] def scanAll(s:ByteArray):List (Int×Nat×Nat)×Int×Int :=
 if 65536<s.size then([],2,0)
 else if 0<=clean s then([],3,clean s)
 else match(alls s 0).2 with
  |some i=>([],4,(i:Int))
  |none=>((alls s 0).1,0,0)
def tokV(t:Int×Nat×Nat):List Value:=[.int .u8 t.1,.int .i64 (t.2.1:Nat),.int .i64 (t.2.2:Nat)]
def toksV(l:List (Int×Nat×Nat)):List Value:=l.flatMap tokV
theorem zHp(l:List (Int×Nat×Nat))(t:Int×Nat×Nat):toksV (l++[t])=toksV l++tokV t:=by unfold toksV;rw[List.flatMap_append];simp
theorem zLz(l:List (Int×Nat×Nat)):(toksV l).length=l.length*3:=by
 unfold toksV;induction l with
 |nil=>rfl
 |cons t l ih=>rw[List.flatMap_cons,lA,ih];simp[tokV];omega
theorem kE{s:ByteArray}{i e:Nat}(h1:i<=e)(he:e<=s.size):(s.extract i e).size=e-i:=by
 rw[ByteArray.size_extract];omega
theorem gZ{s:ByteArray}{i e j:Nat}(h:i+j<e)(he:e<=s.size):bt (s.extract i e) j=bt s (i+j):=by
 unfold bt;rw[get!_extract s i e j h he]
theorem cut3(s:ByteArray){i e:Nat}(h1:i<=e)(he:e<=s.size):s.extract 0 i++(s.extract i e++s.extract e s.size)=s:=by
 rw[jP s i e s.size h1 he,jP s 0 i s.size (Nat.zero_le _) Z,zCs]
theorem zJr{s:ByteArray}{i e j:Nat}(h1:i<=e)(he:e<=s.size)(h0:(rd s (i+j)).2≠0)(h:i+j+(rd s (i+j)).2<=e):rd (s.extract i e) j=rd s (i+j):=by
 have hA:(s.extract 0 i).size=i:=by rw[ByteArray.size_extract];omega
 have hr:rd s (i+j)=rd (s.extract i e++s.extract e s.size) j:=by
  have:=zEo (s.extract 0 i) (s.extract i e++s.extract e s.size) j;rw[cut3 s h1 he,hA]at this;exact this
 rw[hr]at h0 h ⊢;exact zNl _ _ j h0 (by rw[kE h1 he];omega)
theorem zJs{s:ByteArray}(i j:Nat)(h1:i<=j)(h2:j<blankTo s i):j<s.size/\blankB (bt s j)=true:=by
 rw[blankTo]at h2;by_cases h:i<s.size/\blankB (bt s i)=true
 .rw[iP h]at h2;by_cases e:i=j
  .subst e;exact h
  .exact zJs (i+1) j Z h2
 .rw[iN h]at h2;omega
termination_by s.size-i
decreasing_by omega
theorem zJt{s:ByteArray}{i:Nat}(hi:i+1<s.size)(h1:numCh s i (numHex s i) i=true)(h2:numCh s i (numHex s i) (i+1)=true):i+2<=numEnd s i:=by
 unfold numEnd;rw[kK Z h1,kK hi h2];exact(zEe s i _ (i+2) Z).1
theorem zRm{s:ByteArray}{i:Nat}(h:(begun s i).1≠0):∃n:Nat,(begun s i).2.1=n/\i+2<=n/\n<=s.size/\isMark (bt s i)=true/\(begun (s.extract i n) 0).1=(begun s i).1/\(begun (s.extract i n) 0).2.1=((n-i:Nat):Int):=by
 have he:=zCl s i h;have hq:begun s i=((begun s i).1,(begun s i).2.1,(begun s i).2.2.1,0):=by rw[<-he]
 have hm:=(zIs hq).2.2;obtain⟨j,n,g1,g2,g3,g4,g5,g6,g7,g8⟩:=jL s i _ _ _ hq;have hj:j=i:=Z;subst hj;rw[Int.toNat_natCast]at hm;obtain⟨k',hk'⟩:=yCc g6;have z:=kE (s:=s) (i:=j) (e:=n) Z g4;have b0:=gZ (s:=s) (i:=j) (e:=n) (j:=0) Z g4;obtain⟨j',n',f1,f2,f3,f4,f5,f6,f7,f8⟩:=jL (s.extract j n) 0 _ _ _ hk';have hj':j'=0:=Z;subst hj';rw[b0,Nat.add_zero]at f8;refine⟨n,g2,g3,g4,hm,?_,?_⟩
 .rw[hk'];rcases g8 with⟨a1,a2⟩|⟨a1,a2⟩<;>rcases f8 with⟨a3,a4⟩|⟨a3,a4⟩
  .rw[a1];exact a3
  .exact absurd a2 a4
  .exact absurd a4 a2
  .rw[a1];exact a3
 .rw[hk'];simp only[z]
attribute [local irreducible] signL
attribute [local irreducible] zA
set_option maxHeartbeats 2000000
theorem kF{s:ByteArray}{i:Nat}(hc:cleanZ s i<0)(hi:i<s.size):badHere s i=false/\(rd s i).2≠0/\cleanZ s (i+(rd s i).2)<0:=by
 have hb:badHere s i=false:=by
  cases h:badHere s i
  .rfl
  .rw[zFe hi h]at hc;omega
 exact⟨hb,zTz hb,by rw[<-gW hi hb];exact hc⟩
theorem zUk(s:ByteArray):cleanZ s s.size<0:=by rw[zCk Z];decide
theorem zJu(s:ByteArray)(j:Nat)(hj:j<s.size)(hb:bt s j / 64≠2)(i:Nat)(hi:i<=j)(hc:cleanZ s i<0):cleanZ s j<0:=by
 by_cases hlt:i<j
 .obtain⟨_,h0,hn⟩:=kF hc Z;obtain⟨l1,l2⟩:=zNu s i h0;by_cases hle:i+(rd s i).2<=j
  .exact zJu s j hj hb _ hle hn
  .have:=l2 (j-i) Z Z;rw[show i+(j-i)=j by omega]at this;exact absurd this hb
 .obtain rfl:i=j:=Z;exact hc
termination_by j-i
decreasing_by omega
theorem zRn{s:ByteArray}{i j:Nat}(hc:cleanZ s i<0)(hi:i<=j)(hj:j<s.size)(hb:bt s j<128):cleanZ s (j+1)<0:=by
 have h:=zJu s j hj Z i hi hc;have:=(kF h hj).2.2
 rwa [vF hj hb]at this
theorem zRo{c:Nat}(h:dval c<10):c<128:=by
 unfold dval at h;split at h
 .omega
 .split at h
  .omega
  .split at h
   .omega
   .exact absurd h Z
theorem zYu{s:ByteArray}{a i:Nat}{hex:Bool}(h:numCh s a hex i=true):bt s i<128:=by
 unfold numCh at h;simp only[Bool.or_eq_true,Bool.and_eq_true,decide_eq_true_eq]at h;rcases h with((((h|h)|h)|h)|h)|h
 .omega
 .omega
 .exact zRo h
 .omega
 .omega
 .omega
theorem zRp{s:ByteArray}{a:Nat}{hex:Bool}(i j:Nat)(h1:i<=j)(h2:j<numTo s a hex i):j<s.size/\numCh s a hex j=true:=by
 by_cases h:i<s.size/\numCh s a hex i=true
 .rw[kK h.1 h.2]at h2;by_cases e:i=j
  .subst e;exact h
  .exact zRp (i+1) j Z h2
 .rw[fX h]at h2;omega
termination_by s.size-i
decreasing_by omega
theorem zEq{s:ByteArray}(i e:Nat)(h:blockTo s i=some e):bt s (e-1)=47:=by
 rw[blockTo]at h;by_cases hlt:i+1<s.size
 .rw[iP hlt]at h;by_cases hm:bt s i=42/\bt s (i+1)=47
  .rw[iP hm]at h;simp only[Option.some.injEq]at h;rw[<-h];exact hm.2
  .rw[iN hm]at h;exact zEq (i+1) e h
 .rw[iN hlt]at h;cases h
termination_by s.size-i
decreasing_by omega
theorem zGo(s:ByteArray)(i:Nat)(hi:i<=s.size):lineTo s i=s.size\/(lineTo s i<s.size/\bt s (lineTo s i)=10):=by
 rw[lineTo];by_cases h:i<s.size/\bt s i≠10
 .rw[iP h];exact zGo s (i+1) Z
 .rw[iN h];by_cases hlt:i<s.size
  .exact Or.inr ⟨hlt,Z⟩
  .exact Or.inl Z
termination_by s.size-i
decreasing_by omega
theorem zJv{s:ByteArray}(i:Nat)(hi:i<=s.size)(hc:cleanZ s i<0):cleanZ s (wordTo s i)<0:=by
 rw[wordTo];by_cases h:i<s.size/\inWord s i=true
 .rw[dif_pos h];obtain⟨_,h0,hn⟩:=kF hc h.1;have hw:=xH s i;exact zJv _ Z hn
 .rw[dif_neg h];exact hc
termination_by s.size-i
decreasing_by omega
theorem zFk(l:List Nat)(n j:Nat)(h:j<n):(l.take n).getD j 0=l.getD j 0:=by
 rw[gD,gD,List.getElem?_take,iP h]
theorem zUl:∀m∈signs3,∀j<3,m.getD j 0<128:=by decide +kernel
theorem zUm:∀m∈signs2,∀j<2,m.getD j 0<128:=by decide +kernel
theorem zUn:∀m∈signs1,∀j<1,m.getD j 0<128:=by decide +kernel
theorem yEg(l:List Nat)(j:Nat)(h:j<signL l):l.getD j 0<128:=by
 unfold signL at h;by_cases c3:signs3.contains (l.take 3)=true
 .rw[iP c3]at h;have:=zUl _ (List.contains_iff_mem.1 c3) j h
  rwa [zFk _ _ _ h]at this
 .rw[iN c3]at h;by_cases c2:signs2.contains (l.take 2)=true
  .rw[iP c2]at h;have:=zUm _ (List.contains_iff_mem.1 c2) j h
   rwa [zFk _ _ _ h]at this
  .rw[iN c2]at h;by_cases c1:signs1.contains (l.take 1)=true
   .rw[iP c1]at h;have:=zUn _ (List.contains_iff_mem.1 c1) j h
    rwa [zFk _ _ _ h]at this
   .rw[iN c1]at h;omega
theorem zYv{s:ByteArray}(i j:Nat)(h:i+j<s.size):(zA (s.extract i s.size)).getD j 0=bt s (i+j):=by
 have h1:=fW (s.extract i s.size) j (by rw[ByteArray.size_extract];omega);rw[gZ (j:=j) Z (nR _)]at h1;rw[gD,h1];rfl
theorem zYw{s:ByteArray}(i n:Nat)(hn:signL (zA (s.extract i s.size))=n)(h0:0<n)(hb:i+n<=s.size):bt s (i+n-1)<128:=by
 have:=yEg (zA (s.extract i s.size)) (n-1) (by rw[hn];omega);rw[zYv i (n-1) Z]at this;rw[show i+n-1=i+(n-1)by omega];exact this
theorem zYx(s:ByteArray)(i:Nat)(hi:i<s.size)(hc:cleanZ s i<0)(e:Nat)(h:(lex s i).1≠0)(hE:(lex s i).2=e):cleanZ s e<0:=by
 obtain⟨e',he',h1,h2⟩:=zBh s i hi h;obtain rfl:e'=e:=Z;clear he';have after:bt s (e'-1)<128->cleanZ s e'<0:=λhb=>by
  have:=zRn (j:=e'-1) hc Z Z hb
  rwa [show e'-1+1=e' by omega]at this
 unfold lex at h hE;split at hE
 .obtain rfl:i+(rd s i).2=e':=by simp only[]at hE;omega
  exact(kF hc hi).2.2
 .rename_i c1;rw[iN c1]at h;split at hE
  .obtain rfl:blankTo s i=e':=by simp only[]at hE;omega
   have:=(zJs (s:=s) i (blankTo s i-1) Z Z).2;exact after (by unfold blankB at this;simp at this;omega)
  .rename_i c2;rw[iN c2]at h;split at hE
   .obtain rfl:lineTo s i=e':=by simp only[]at hE;omega
    rcases zGo s i Z with g|⟨g1,g2⟩
    .rw[g];exact zUk s
    .exact zJu s _ g1 (by rw[g2];decide) i Z hc
   .rename_i c3;rw[iN c3]at h;split at hE
    .rename_i c4;rw[iP c4]at h;cases hb:blockTo s (i+2)with
     |none=>rw[hb]at h;exact absurd rfl h
     |some e =>
      rw[hb]at hE;obtain rfl:e=e':=by simp only[]at hE;omega
      exact after (by rw[zEq _ _ hb];decide)
    .rename_i c4;rw[iN c4]at h;split at hE
     .have:wordTo s i=e':=by
       split at hE<;>(simp only[]at hE;omega)
      rw[<-this];exact zJv i Z hc
     .rename_i c5;rw[iN c5]at h;split at hE
      .rename_i c6;obtain rfl:i+1=e':=by simp only[]at hE;omega
       exact after (by rw[show i+1-1=i by omega,c6];decide)
      .rename_i c6;rw[iN c6]at h;split at hE
       .rename_i c7;rw[iP c7]at h;unfold numScan at h hE;rw[Int.toNat_natCast]at h hE;split at hE
        .rename_i c8;rw[iP c8]at h;split at hE
         .obtain rfl:numEnd s i=e':=by simp only[]at hE;omega
          exact after (zYu (zRp (s:=s) (a:=i) (hex:=numHex s i) i (numEnd s i-1) Z (show numEnd s i-1<numEnd s i by omega)).2)
         .rename_i c9;rw[iN c9]at h;exact absurd rfl h
        .rename_i c8;rw[iN c8]at h;exact absurd rfl h
       .rename_i c7;rw[iN c7]at h;split at hE
        .rename_i c8;rw[iP c8]at h;have he:=zCl s i h;have hq:begun s i=((begun s i).1,(begun s i).2.1,(begun s i).2.2.1,0):=by rw[<-he]
         have hm:=(zIs hq).2.2;obtain⟨j,n,g1,g2,g3,g4,g5,_⟩:=jL s i (begun s i).1 (begun s i).2.1 (begun s i).2.2.1 hq;obtain rfl:n=e':=Z;obtain rfl:j=i:=Z;rw[Int.toNat_natCast]at hm;exact after (by rw[<-g5];unfold isMark at hm;simp at hm;omega)
        .rename_i c8;rw[iN c8]at h;split at hE
         .rename_i c9;simp only[]at hE;have hE:=Int.ofNat_inj.1 hE;rw[<-hE]at h2 after;rw[<-hE];exact after (zYw i _ rfl c9 h2)
         .rename_i c9;rw[iN c9]at h;exact absurd rfl h
theorem zGp{s:ByteArray}{i e:Nat}(h1:i<=e)(he:e<=s.size)(hce:cleanZ s e<0)(j:Nat)(hj:i+j<=e)(hc:cleanZ s (i+j)<0):cleanZ (s.extract i e) j<0:=by
 by_cases hlt:i+j<e
 .obtain⟨hb,h0,hn⟩:=kF hc Z;obtain⟨l1,l2⟩:=zNu s (i+j) h0;have hw:=xH s (i+j);have hin:i+j+(rd s (i+j)).2<=e:=by
   rcases Nat.lt_or_ge e s.size with g|g
   .rcases Nat.lt_or_ge e (i+j+(rd s (i+j)).2)with g2|g2
    .have hle:=(zNu s e (kF hce g).2.1).1;have:=l2 (e-(i+j)) Z Z;rw[show i+j+(e-(i+j))=e by omega]at this;exact absurd this hle
    .exact g2
   .omega
  have hr:=zJr h1 he h0 hin;have hbp:badHere (s.extract i e) j=false:=by
   unfold badHere at hb ⊢;simp only[Bool.or_eq_false_iff,decide_eq_false_iff_not,Bool.and_eq_false_iff]at hb ⊢;rw[hr];exact⟨hb.1,hb.2.imp id (λh=>Z)⟩
  rw[gW (by rw[kE h1 he];omega) hbp,hr];exact zGp h1 he hce (j+(rd s (i+j)).2) Z (by rw[show i+(j+(rd s (i+j)).2)=i+j+(rd s (i+j)).2 by omega];exact hn)
 .rw[zCk (by rw[kE h1 he];omega)];decide
termination_by e-(i+j)
decreasing_by omega
end Go.Proofs.YtfpjdpdmgceciaaGreatDoor
namespace Go.Proofs.YtfpjdpdmgceciaaGreatDoor
set_option linter.all false
theorem zCj{c:Nat}(h:blankB c=true):c=32\/c=9\/c=10\/c=13:=by
 unfold blankB at h;simp at h;omega
theorem zGe{s:ByteArray}{i e j:Nat}(h1:i<=e)(he:e<=s.size)(hj:i+j<e)(h0:(rd (s.extract i e) j).2≠0):rd s (i+j)=rd (s.extract i e) j:=by
 have hA:(s.extract 0 i).size=i:=by rw[ByteArray.size_extract];omega
 have:=zEo (s.extract 0 i) (s.extract i e++s.extract e s.size) j;rw[cut3 s h1 he,hA]at this;rw[this];exact zVr _ _ j (by rw[kE h1 he];omega) h0
theorem zCt{s:ByteArray}{i:Nat}(h:numBegins s i=true):dval (bt s i)<10\/(bt s i=46/\i+1<s.size/\dval (bt s (i+1))<10/\i+2<=numEnd s i):=by
 unfold numBegins at h;simp only[Bool.and_eq_true,decide_eq_true_eq,Bool.or_eq_true]at h;rcases h.2 with g|⟨g,g2,g3⟩
 .exact Or.inl g
 .exact Or.inr ⟨g,g2,g3,zJt g2 (by unfold numCh;rw[g];simp) (by unfold numCh;simp[g3])⟩
theorem zTo{s:ByteArray}{i:Nat}(h:numHex s i=true):i+2<=numEnd s i:=by
 have h0:=h;unfold numHex at h;simp only[Bool.and_eq_true,decide_eq_true_eq]at h;obtain⟨g1,g2,g3⟩:=h;exact zJt g1 (by unfold numCh;rw[g2];simp[dval]) (by unfold numCh;rcases g3 with g3|g3<;>rw[g3]<;>simp)
theorem jN{s:ByteArray}{i:Nat}(hb:numBegins s i=true):numScan s (i:Nat)=if kindL (zA (s.extract i (numEnd s i)))≠0 then((kindL (zA (s.extract i (numEnd s i))):Int),(numEnd s i:Int),0)else(0,0,4):=by
 unfold numScan;rw[Int.toNat_natCast,iP ⟨Z,hb⟩]
theorem zQt(s y:ByteArray)(i:Nat)(p:Nat×List Int)(h:raw s i=some p):raw (s++y) i=some p:=by
 by_cases hi:i<s.size
 .have hi2:i<(s++y).size:=by rw[ByteArray.size_append];omega
  by_cases hc:bt s i=96
  .rw[gR hi hc]at h;rw[gR hi2 (by rw[yB s y i hi];exact hc)];exact h
  .rw[gS hi hc]at h;rw[gS hi2 (by rw[yB s y i hi];exact hc),yB s y i hi];cases hr:raw s (i+1)with
   |none=>rw[hr]at h;cases h
   |some q=>rw[zQt s y (i+1) q hr];rw[hr]at h;exact h
 .rw[zCe hi]at h;cases h
termination_by s.size-i
decreasing_by omega
theorem zQu(s y:ByteArray)(i:Nat)(p:Nat×List Int)(h:single s i=some p):single (s++y) i=some p:=by
 by_cases hi:i<s.size
 .have hi2:i<(s++y).size:=by rw[ByteArray.size_append];omega
  by_cases hc:bt s i=39
  .rw[jJ hi hc]at h;cases h
  .cases hit:item s i 39 with
   |none=>rw[jK hi hc hit]at h;cases h
   |some q =>
    obtain⟨n,l⟩:=q;rw[vM hi hc hit]at h;rw[vM hi2 (by rw[yB s y i hi];exact hc) (zCg s y i 39 hi _ hit)];split at h
    .rename_i g;rw[iP ⟨by rw[ByteArray.size_append];omega,by rw[yB s y _ g.1];exact g.2⟩];exact h
    .cases h
 .rw[gT hi]at h;cases h
theorem zQv(x p y:ByteArray)(k:Int)(e:Nat)(v:ByteArray)(hp:0<p.size)(h:begunAt p 0=(k,(e:Int),v,0)):begunAt (x++(p++y)) x.size=(k,((x.size+e:Nat):Int),v,0):=by
 have b0:bt (x++(p++y)) x.size=bt p 0:=by
  have:=xC x (p++y) 0;rw[Nat.add_zero]at this;rw[this,yB p y 0 hp]
 unfold begunAt at h ⊢;rw[b0];by_cases c1:bt p 0=96
 .rw[iP c1]at h ⊢;rw[zCh x (p++y) 1];cases hr:raw p (0+1)with
  |none=>rw[hr]at h;cases h
  |some q =>
   obtain⟨e1,l1⟩:=q;rw[hr]at h;rw[zQt p y 1 _ hr];simp only[Prod.mk.injEq,Option.map_some]at h ⊢;obtain⟨g1,g2,g3,_⟩:=h;exact⟨g1,Z,g3,trivial⟩
 .rw[iN c1]at h ⊢;by_cases c2:bt p 0=34
  .rw[iP c2]at h ⊢;rw[zAo x (p++y) 1];cases hr:body p (0+1)with
   |none=>rw[hr]at h;cases h
   |some q =>
    obtain⟨e1,l1⟩:=q;rw[hr]at h;rw[zLl p y 1 _ hr];simp only[Prod.mk.injEq,Option.map_some]at h ⊢;obtain⟨g1,g2,g3,_⟩:=h;exact⟨g1,Z,g3,trivial⟩
  .rw[iN c2]at h ⊢;rw[zDy x (p++y) 1];cases hr:single p (0+1)with
   |none=>rw[hr]at h;cases h
   |some q =>
    obtain⟨e1,l1⟩:=q;rw[hr]at h;rw[zQu p y 1 _ hr];simp only[Prod.mk.injEq,Option.map_some]at h ⊢;obtain⟨g1,g2,g3,_⟩:=h;exact⟨g1,Z,g3,trivial⟩
attribute [local irreducible] signL
attribute [local irreducible] zA
set_option maxHeartbeats 2000000
end Go.Proofs.YtfpjdpdmgceciaaGreatDoor
namespace Go.Proofs.YtfpjdpdmgceciaaGreatDoor
set_option maxRecDepth 100000
set_option maxHeartbeats 32000000
set_option linter.all false
open Go.RowKit
theorem zQy(s:ByteArray)(a:Nat)(h:a+2<=s.size)(w:World) :
  (Instr.slice 9 (.string (s.extract a s.size)) (some (.int .i64 2)) none none).run Tryz.prog w=.ok (.string (s.extract (a+2) s.size)) w:=by
 have:=zBj (s.extract a s.size) 2 2 rfl (by rw[ByteArray.size_extract];omega) w;have e:(s.extract a s.size).extract 2 (s.extract a s.size).size=s.extract (a+2) s.size:=by
  apply ByteArray.ext;apply Array.ext';rw[xD,xD,xD,List.drop_drop]
 rw[this,e]
theorem zNt:∀(j:Nat) b,(⟨#[32,9,13,10]⟩:ByteArray).data.toList[j]?=some b->b.toNat<128:=by
 intro j b h;have:b∈([32,9,13,10]:List UInt8):=List.mem_of_getElem? h;simp at this;rcases this with rfl|rfl|rfl|rfl<;>decide
@[irreducible] def kindPost(s:ByteArray)(a:Nat)(w0:World)(e:Ending)(w':World):Prop :=
 e=.returned (.tuple #[.int .u8 (lex s a).1,.int .i64 (lex s a).2])/\Below w0.heap.size w0 w'
theorem zYf(s:ByteArray)(a:Nat)(ha:a<s.size)(hs:s.size<=2147483647)(w:World)(hT:Tabs w)(hM:MaxC w) :
  Calls Tryz.prog 173 #[.string s,.int .i64 (a:Int)] w (kindPost s a w):=by
 have HQ:Hid (∀w' k t,lex s a=(k,t)->Below w.heap.size w w'->kindPost s a w (.returned (.tuple #[.int .u8 k,.int .i64 t])) w'):=Hd λw' k t h h2=>by
  unfold kindPost;rw[h];exact⟨rfl,h2⟩
 have HV:Hid (lex s a=_):=Hd (by unfold lex;rfl);generalize kindPost s a w=Q at *;have hrest:=zBj s (a:Int) a rfl Z;have hrz:(s.extract a s.size).size=s.size-a:=by rw[ByteArray.size_extract];omega
 have CR:=gV s a w hT;rw[yF]at CR;have hrw:=xH s a;have hrl:=zRh s a;have HSM:=Hd (@zOr s a);have HAS:=Hd (@vF s a ha);have CTL:=Hd (λw=>Tryz.strings_TrimLeft_set (s.extract a s.size) ⟨#[32,9,13,10]⟩ w V zNt);have CP1:Hid (∀w,Calls Tryz.prog 205 #[.string (s.extract a s.size),.string ⟨#[47,47]⟩] w λe w'=>e=.returned (.bool (decide (a+1<s.size/\bt s a=47/\bt s (a+1)=47)))/\w'=w):=Hd λw=>by
  have:=Tryz.strings_HasPrefix (s.extract a s.size) ⟨#[47,47]⟩ w;rw[show(⟨#[47,47]⟩:ByteArray).data.toList=[47,47]from rfl,prefix2 s a 47 47]at this;exact this
 have CP2:Hid (∀w,Calls Tryz.prog 205 #[.string (s.extract a s.size),.string ⟨#[47,42]⟩] w λe w'=>e=.returned (.bool (decide (a+1<s.size/\bt s a=47/\bt s (a+1)=42)))/\w'=w):=Hd λw=>by
  have:=Tryz.strings_HasPrefix (s.extract a s.size) ⟨#[47,42]⟩ w;rw[show(⟨#[47,42]⟩:ByteArray).data.toList=[47,42]from rfl,prefix2 s a 47 42]at this;exact this
 have CIB:Hid (∀w,Calls Tryz.prog 162 #[.string (s.extract a s.size),.int .u8 10] w λe w'=>e=.returned (.int .i64 (Lib.indexByte (s.extract a s.size).data.toList 10))/\w'=w):=Hd λw=>Tryz.strings_IndexByte (s.extract a s.size) 10 w
 have CIX:Hid (∀w',Below w.heap.size w w'->Calls Tryz.prog 131 #[.string (s.extract (a+2) s.size),.string ⟨#[42,47]⟩] w' λe w''=>e=.returned (.int .i64 (Lib.index (s.extract (a+2) s.size).data.toList [42,47]))/\w''=w'):=Hd λw' hb=>by
  obtain⟨m,hm,_⟩:=hM.below hb;exact Tryz.strings_Index (s.extract (a+2) s.size) ⟨#[42,47]⟩ m w' (by rw[ByteArray.size_extract];omega) hm
 have CWD:=Hd (λw=>zYb s a Z hs w);have CNU:=Hd (λw=>zPb s a w hs);have CQU:=Hd (λw' (hb:Below w.heap.size w w')=>zQf s a w' (hT.below hb) (hM.below hb) hs);have CSG:Hid (∀w,Calls Tryz.prog 216 #[.string (s.extract a s.size)] w λe w'=>e=.returned (.int .i64 (signL (zA (s.extract a s.size)):Nat))/\w=w'):=Hd λw=>zYe (s.extract a s.size) Z w
 have HBT:=Hd (zTx s a Z);have HLI:=Hd (zTy s a Z);have HBI:=Hd (λh=>zQz s (a+2) h);have HX2:=Hd (λh w=>zQy s a h w);have hsg:signL (zA (s.extract a s.size))<=3:=by unfold signL;split<;>(try split)<;>(try split)<;>omega
 have hib:=zBp 10 (s.extract a s.size).data.toList;have hibg:=Lib.indexByte_ge (s.extract a s.size).data.toList 10;rw[<-size_data]at hib;generalize rd s a=q at *;obtain⟨r,n⟩:=q;simp only[]at *;have CRh:=Hd CR;have HRZ:=Hd hrz;clear CR hrz;have CB:=Hd (λw=>zOm (r:Int) w);have CL:=Hd (λw=>zAf (r:Int) w);go_enter Tryz.func173,Tryz.ntmps173;go_wp2_with fail;refine CRh.out.mono ?_;rintro e w1 ⟨rfl,hb1⟩;have HB1:=Hd hb1;clear hb1;by_cases hmk:r=65279
 .subst hmk;rw[iP rfl]at HV;have hn:IntKind.i64.wrap ((a:Int)+n)=(a:Int)+n:=wI Z;go_wp2_with fail;show Q (.returned (.tuple #[_,_])) _;exact HQ.out _ _ _ (by rw[HV.out];congr 1) HB1.out
 .have hmk1:((r:Int)==65279)=false:=by rw[bE];omega
  have hmk2:¬(r:Int)=65279:=Z;rw[iN hmk]at HV;clear hmk;go_wp2_with fail;refine(CB.out _).mono ?_;rintro e w2 ⟨rfl,rfl⟩;cases hbl:blank (r:Int)with
  |true =>
   rw[hbl,iP rfl]at HV;clear hbl;have hbl2:=zAr s a Z;go_wp2_with fail;refine mB (CTL.out _) HB1.out λw2 HB2=>?_;have hz:(⟨(Lib.trimLeftS (s.extract a s.size).data.toList (⟨#[32,9,13,10]⟩:ByteArray).data.toList).toArray⟩:ByteArray).size+blankTo s a=s.size:=by
    rw[size_data];simpa[blanks]using HBT.out
   generalize(⟨(Lib.trimLeftS (s.extract a s.size).data.toList (⟨#[32,9,13,10]⟩:ByteArray).data.toList).toArray⟩:ByteArray)=t at *;have hzi:(s.size:Int)-t.size=(blankTo s a:Int):=Z;have HZI:=Hd hzi;have hzl:(t.size:Int)<=s.size:=Z;have hw:IntKind.i64.wrap ((s.size:Int)-t.size)=(s.size:Int)-t.size:=wI Z;clear hz hzi;go_wp2_with fail;show Q (.returned (.tuple #[_,_])) _;exact HQ.out _ _ _ (by rw[HV.out,<-HZI.out]) HB2.out
  |false =>
   rw[hbl,iN Ob]at HV;clear hbl;go_wp2_with fail;refine(CP1.out _).mono ?_;rintro e w2 ⟨rfl,rfl⟩;by_cases hp1:a+1<s.size/\bt s a=47/\bt s (a+1)=47
   .rw[iP hp1,HLI.out]at HV;rw[decide_eq_true hp1];clear hp1;go_wp2_with fail;refine(CIB.out _).mono ?_;rintro e w2 ⟨rfl,rfl⟩;generalize Lib.indexByte (s.extract a s.size).data.toList 10=j at *;have HRZ2:=HRZ.out;rw[HRZ2]at hib;clear HRZ2;by_cases hj:j<0
    .rw[iP hj]at HV;have hj':¬(0:Int)<=j:=Z;clear hib hibg;go_wp2_with fail;show Q (.returned (.tuple #[_,_])) _;exact HQ.out _ _ _ HV.out HB1.out
    .rw[iN hj]at HV;have hj':(0:Int)<=j:=Z;have hw:IntKind.i64.wrap ((a:Int)+j)=(a:Int)+j:=wI Z;have hval:((a+j.toNat:Nat):Int)=(a:Int)+j:=Z;rw[hval]at HV;clear hval hj hib hibg;go_wp2_with fail;show Q (.returned (.tuple #[_,_])) _;exact HQ.out _ _ _ HV.out HB1.out
   .rw[iN hp1]at HV;rw[decide_eq_false hp1];clear hp1;go_wp2_with fail;refine(CP2.out _).mono ?_;rintro e w2 ⟨rfl,rfl⟩;by_cases hp2:a+1<s.size/\bt s a=47/\bt s (a+1)=42
    .rw[iP hp2]at HV;rw[decide_eq_true hp2];have hx2:=HX2.out Z;have hbi:=HBI.out Z;have hig:=Lib.index_ge (s.extract (a+2) s.size).data.toList [42,47];have hbl:=zDd s (a+2);clear hp2;rw[hbi]at HV hbl;clear hbi;go_wp2_with fail;refine(CIX.out _ HB1.out).mono ?_;rintro e w2 ⟨rfl,rfl⟩;generalize Lib.index (s.extract (a+2) s.size).data.toList [42,47]=j at *;by_cases hj:j<0
     .rw[iP hj]at HV;have hj':¬(0:Int)<=j:=Z;clear hig hbl;go_wp2_with fail;show Q (.returned (.tuple #[_,_])) _;exact HQ.out _ _ _ HV.out HB1.out
     .rw[iN hj]at HV hbl;have hj':(0:Int)<=j:=Z;have hle:=hbl _ rfl;have hw:IntKind.i64.wrap ((a:Int)+j)=(a:Int)+j:=wI Z;have hw2:IntKind.i64.wrap ((a:Int)+j+4)=(a:Int)+j+4:=wI Z;have hval:((a+2+j.toNat+2:Nat):Int)=(a:Int)+j+4:=Z;simp only[hval]at HV;clear hval hj hig hbl hle;go_wp2_with fail;show Q (.returned (.tuple #[_,_])) _;exact HQ.out _ _ _ HV.out HB1.out
    .rw[iN hp2]at HV;rw[decide_eq_false hp2];clear hp2;go_wp2_with fail;refine mB (CL.out _) HB1.out λw2 HB2=>?_;cases hlt:letter (r:Int)with
     |true =>
      rw[hlt,iP rfl]at HV;clear hlt;go_wp2_with fail;refine(CWD.out _).mono ?_;intro e w3 h3;unfold wordPost at h3;obtain⟨rfl,hb3⟩:=h3;have HB3:=Hd (zD HB2.out hb3);clear hb3;cases hw:word (s.extract a (wordTo s a))with
      |true =>
       rw[hw,iP rfl]at HV;rw[iP rfl];clear hw;go_wp2_with fail;show Q (.returned (.tuple #[_,_])) _;exact HQ.out _ _ _ HV.out HB3.out
      |false =>
       rw[hw,iN Ob]at HV;rw[iN Ob];clear hw;go_wp2_with fail;show Q (.returned (.tuple #[_,_])) _;exact HQ.out _ _ _ HV.out HB3.out
     |false =>
      rw[hlt,iN Ob]at HV;clear hlt;by_cases h59:r=59
      .subst h59;have hbt:bt s a=59:=HSM.out Ob Ob;rw[iP hbt]at HV;have hval:((a+1:Nat):Int)=(a:Int)+1:=Z;rw[hval]at HV;clear hbt hval;go_wp2_with fail;show Q (.returned (.tuple #[_,_])) _;exact HQ.out _ _ _ HV.out HB2.out
      .have hbt:¬bt s a=59:=λh=>by
        have:=HAS.out Z;rw[h]at this;simp at this;omega
       rw[iN hbt]at HV;have h591:((r:Int)==59)=false:=by rw[bE];omega
       have h592:¬(r:Int)=59:=Z;clear hbt h59;go_wp2_with fail;refine(CNU.out _).mono ?_;intro e w3 h3;unfold scan5Post at h3;obtain⟨rfl,hb3⟩:=h3;have HB3:=Hd (zD HB2.out hb3);clear hb3;generalize numScan s a=q at *;obtain⟨k,t,er⟩:=q;simp only[]at *;by_cases her:er=15
       .subst her;rw[iN Ob]at HV;go_wp2_with fail;refine(CQU.out _ HB3.out).mono ?_;intro e w4 h4;unfold scanPost at h4;obtain⟨rfl,hb4⟩:=h4;have HB4:=Hd (zD HB3.out hb4);clear hb4;generalize begun s a=q at *;obtain⟨k2,t2,v2,er2⟩:=q;simp only[]at *;by_cases her2:er2=15
        .subst her2;rw[iN Ob]at HV;go_wp2_with fail;refine(CSG.out _).mono ?_;rintro e w5 ⟨rfl,rfl⟩;generalize signL (zA (s.extract a s.size))=g at *;by_cases hg:0<g
         .rw[iP hg]at HV;have hg':(0:Int)<g:=Z;have hw:IntKind.i64.wrap ((a:Int)+g)=(a:Int)+g:=wI Z;have hval:((a+g:Nat):Int)=(a:Int)+g:=Z;rw[hval]at HV;clear hg hval hsg;go_wp2_with fail;show Q (.returned (.tuple #[_,_])) _;exact HQ.out _ _ _ HV.out HB4.out
         .rw[iN hg]at HV;have hg':¬(0:Int)<g:=Z;clear hg hsg;go_wp2_with fail;show Q (.returned (.tuple #[_,_])) _;exact HQ.out _ _ _ HV.out HB4.out
        .rw[iP her2]at HV;have her3:(er2==15)=false:=by rw[bE];exact her2
         go_wp2_with fail;show Q (.returned (.tuple #[_,_])) _;exact HQ.out _ _ _ HV.out HB4.out
       .rw[iP her]at HV;have her3:(er==15)=false:=by rw[bE];exact her
        go_wp2_with fail;show Q (.returned (.tuple #[_,_])) _;exact HQ.out _ _ _ HV.out HB3.out
theorem zFb{P:Program}{fn:Func}{p t1:Tmp}{ty:TypeId}(h:fn.results=#[.cell p ty,.tmp t1])(tmps:Array Value)(w:World)(g:Nat)(t:TypeId)(cs:Array Value)(fr:Nat×Nat)(d:TypeDesc)(hp:tmps.getD p undef=.pointer (some ⟨g,0,none⟩))(hg:w.heap[g]?=some (.cells cs t fr))(hu:P.underlying ty=some d)(hd:(match d with| .struct _| .array _ _=>true|_=>false)=true)(hi:(P.info? ty).map (·.size)=some cs.size) :
  (results fn tmps).run P w=.ok (.tuple #[.agg cs,tmps.getD t1 undef]) w:=by
 have hp':tmps[p]?.getD undef=.pointer (some ⟨g,0,none⟩):=by simpa using hp
 simp[results,h,hp',asAddr,run_loadVar_row w g t ty cs fr d hg hu hd hi]
theorem kX{P:Program}{fn:Func}{p t1:Tmp}{ty:TypeId}(h:fn.results=#[.tmp t1,.cell p ty])(tmps:Array Value)(w:World)(g:Nat)(t:TypeId)(cs:Array Value)(fr:Nat×Nat)(d:TypeDesc)(hp:tmps.getD p undef=.pointer (some ⟨g,0,none⟩))(hg:w.heap[g]?=some (.cells cs t fr))(hu:P.underlying ty=some d)(hd:(match d with| .struct _| .array _ _=>true|_=>false)=true)(hi:(P.info? ty).map (·.size)=some cs.size) :
  (results fn tmps).run P w=.ok (.tuple #[tmps.getD t1 undef,.agg cs]) w:=by
 have hp':tmps[p]?.getD undef=.pointer (some ⟨g,0,none⟩):=by simpa using hp
 simp[results,h,hp',asAddr,run_loadVar_row w g t ty cs fr d hg hu hd hi]
def TK(W:World)(g:Nat)(k f t:Int):Prop:=W.heap[g]?=some (.cells #[.int .u8 k,.int .i64 f,.int .i64 t] 52 (0,0))
theorem TK.c0{W:World}{g:Nat}{k f t:Int}(h:TK W g k f t):W.cell? ⟨g,0,none⟩=some (.int .u8 k):=by unfold TK at h;simp[World.cell?,h]
theorem TK.c1{W:World}{g:Nat}{k f t:Int}(h:TK W g k f t):W.cell? ⟨g,1,none⟩=some (.int .i64 f):=by unfold TK at h;simp[World.cell?,h]
theorem TK.c2{W:World}{g:Nat}{k f t:Int}(h:TK W g k f t):W.cell? ⟨g,2,none⟩=some (.int .i64 t):=by unfold TK at h;simp[World.cell?,h]
theorem TK.fz{W:World}{g:Nat}{k f t:Int}(h:TK W g k f t)(i:Nat):W.frozen? ⟨g,i,none⟩=false:=by unfold TK at h;simp[World.frozen?,h]
theorem TK.keep{W W':World}{g:Nat}{k f t:Int}(h:TK W g k f t)(hb:Below W.heap.size W W'):TK W' g k f t:=keeps hb h
theorem TK.set0{W:World}{g:Nat}{k f t:Int}(h:TK W g k f t)(k':Int):TK (W.setCell ⟨g,0,none⟩ (.int .u8 k')) g k' f t:=by
 unfold TK at h ⊢;rw[heap_setCell_same W g 0 _ _ _ h];rfl
theorem TK.set1{W:World}{g:Nat}{k f t:Int}(h:TK W g k f t)(f':Int):TK (W.setCell ⟨g,1,none⟩ (.int .i64 f')) g k f' t:=by
 unfold TK at h ⊢;rw[heap_setCell_same W g 1 _ _ _ h];rfl
theorem TK.set2{W:World}{g:Nat}{k f t:Int}(h:TK W g k f t)(t':Int):TK (W.setCell ⟨g,2,none⟩ (.int .i64 t')) g k f t':=by
 unfold TK at h ⊢;rw[heap_setCell_same W g 2 _ _ _ h];rfl
theorem TK.other{W:World}{g:Nat}{k f t:Int}(h:TK W g k f t)(p:Addr)(v:Value)(hp:g≠p.block):TK (W.setCell p v) g k f t:=by
 unfold TK at h ⊢;rw[heap_setCell_other _ _ _ _ hp];exact h
def nextZ(s:ByteArray)(a:Nat):Int×Int×Int×Int:=if(lex s a).1=0 then(0,0,0,4)else((lex s a).1,(a:Int),(lex s a).2,0)
@[irreducible] def nextPost(q:Int×Int×Int×Int)(w0:World)(e:Ending)(w':World):Prop :=
 e=.returned (.tuple #[.agg #[.int .u8 q.1,.int .i64 q.2.1,.int .i64 q.2.2.1],.int .i64 q.2.2.2])/\Below w0.heap.size w0 w'
theorem zTv(s:ByteArray)(a:Nat)(ha:a<s.size)(hs:s.size<=2147483647)(w:World)(hT:Tabs w)(hM:MaxC w) :
  Calls Tryz.prog 142 #[.string s,.int .i64 (a:Int)] w (nextPost (nextZ s a) w):=by
 have CK:=Hd (λw' (hb:Below w.heap.size w w')=>zYf s a ha hs w' (hT.below hb) (hM.below hb));have HQ:Hid (∀w' q,nextZ s a=q->Below w.heap.size w w'->nextPost (nextZ s a) w (.returned (.tuple #[.agg #[.int .u8 q.1,.int .i64 q.2.1,.int .i64 q.2.2.1],.int .i64 q.2.2.2])) w'):=Hd λw' q h h2=>by
  unfold nextPost;rw[h];exact⟨rfl,h2⟩
 have HV:Hid (nextZ s a=if(lex s a).1=0 then(0,0,0,4)else((lex s a).1,(a:Int),(lex s a).2,0)):=Hd (by unfold nextZ;rfl);generalize nextPost (nextZ s a) w=Q at *;have hb0:Below w.heap.size w (((w.alloc (.cells #[.int .u8 0,.int .i64 0,.int .i64 0] 52)))):=(bR _ _).alloc (nR _) _;go_enter Tryz.func142,Tryz.ntmps142;go_wp2_with fail;have hT4:TK ((w.alloc (.cells #[.int .u8 0,.int .i64 0,.int .i64 0] 52)).alloc (.cells #[.int .u8 0,.int .i64 (a:Int),.int .i64 0] 52)) w.heap.size 0 0 0:=by
  unfold TK;rw[Below.heap_alloc _ _ _ Ob];exact heap_alloc_new _ _
 have hT6:TK ((w.alloc (.cells #[.int .u8 0,.int .i64 0,.int .i64 0] 52)).alloc (.cells #[.int .u8 0,.int .i64 (a:Int),.int .i64 0] 52)) (w.heap.size+1) 0 a 0:=by
  unfold TK;have:=heap_alloc_new (w.alloc (.cells #[.int .u8 0,.int .i64 0,.int .i64 0] 52)) (.cells #[.int .u8 0,.int .i64 (a:Int),.int .i64 0] 52);simpa using this
 have hbW:Below w.heap.size w ((w.alloc (.cells #[.int .u8 0,.int .i64 0,.int .i64 0] 52)).alloc (.cells #[.int .u8 0,.int .i64 (a:Int),.int .i64 0] 52)):=hb0.alloc Ob _;generalize(w.alloc (.cells #[.int .u8 0,.int .i64 0,.int .i64 0] 52)).alloc (.cells #[.int .u8 0,.int .i64 (a:Int),.int .i64 0] 52)=W at *;refine(CK.out _ hbW).mono ?_;intro e w2 h2;unfold kindPost at h2;obtain⟨rfl,hb2⟩:=h2;have HB2:=Hd (zD hbW hb2);have H4:=Hd (hT4.keep hb2);have H6:=Hd (hT6.keep hb2);clear hb2 hbW hb0 hT4 hT6 CK;generalize lex s a=q at *;obtain⟨k,t⟩:=q;have HF:Hid (∀(tm:Array Value) W' (q:Int×Int×Int×Int),nextZ s a=q->Below w.heap.size w W'->TK W' w.heap.size q.1 q.2.1 q.2.2.1->tm.getD 4 undef=.pointer (some ⟨w.heap.size,0,none⟩)->tm.getD 5 undef=.int .i64 q.2.2.2->bodyPost Tryz.prog Tryz.f142 Q .ret ⟨tm,[]⟩ W') :=
  Hd λtm W' q h1 h2 h3 h4 h5=>by
   refine bodyPost_ret (zFb rfl tm W' w.heap.size 52 #[.int .u8 q.1,.int .i64 q.2.1,.int .i64 q.2.2.1] (0,0) _ h4 h3 Tryz.underlying52 rfl Oa) rfl ?_;rw[h5];exact HQ.out W' q h1 h2
 have z60:=H6.out.fz 0;have z62:=H6.out.fz 2;have c60:=H6.out.c0;have c61:=H6.out.c1;have c62:=H6.out.c2;have z40:=H4.out.fz 0;have z41:=H4.out.fz 1;have z42:=H4.out.fz 2;have c40:=H4.out.c0;have c41:=H4.out.c1;have c42:=H4.out.c2;by_cases hk:k=0
 .subst hk;rw[iP rfl]at HV;go_wp2_with fail;have hneq:w.heap.size+1≠w.heap.size:=Z;refine HF.out _ _ (0,0,0,4) HV.out ?_ ?_ rfl rfl
  .exact(((((HB2.out.setCell (p:=⟨w.heap.size+1,0,none⟩) (by show w.heap.size<=w.heap.size+1;omega) _).setCell (p:=⟨w.heap.size+1,2,none⟩) (by show w.heap.size<=w.heap.size+1;omega) _).setCell (p:=⟨w.heap.size,0,none⟩) (nR _) _).setCell (p:=⟨w.heap.size,1,none⟩) (nR _) _).setCell (p:=⟨w.heap.size,2,none⟩) (nR _) _)
  .exact((((H4.out.other ⟨w.heap.size+1,0,none⟩ _ (Ne.symm hneq)).other ⟨w.heap.size+1,2,none⟩ _ (Ne.symm hneq)).set0 _).set1 _).set2 _
 .have hkb:(k==0)=false:=by rw[bE];exact hk
  rw[iN hk]at HV;go_wp2_with fail;have hneq:w.heap.size+1≠w.heap.size:=Z;refine HF.out _ _ (k,(a:Int),t,0) HV.out ?_ ?_ rfl rfl
  .exact(((((HB2.out.setCell (p:=⟨w.heap.size+1,0,none⟩) (by show w.heap.size<=w.heap.size+1;omega) _).setCell (p:=⟨w.heap.size+1,2,none⟩) (by show w.heap.size<=w.heap.size+1;omega) _).setCell (p:=⟨w.heap.size,0,none⟩) (nR _) _).setCell (p:=⟨w.heap.size,1,none⟩) (nR _) _).setCell (p:=⟨w.heap.size,2,none⟩) (nR _) _)
  .exact((((H4.out.other ⟨w.heap.size+1,0,none⟩ _ (Ne.symm hneq)).other ⟨w.heap.size+1,2,none⟩ _ (Ne.symm hneq)).set0 _).set1 _).set2 _
def FK(W:World)(g:Nat)(e a:Int):Prop:=W.heap[g]?=some (.cells #[.int .i64 e,.int .i64 a] 25 (0,0))
theorem FK.c0{W:World}{g:Nat}{e a:Int}(h:FK W g e a):W.cell? ⟨g,0,none⟩=some (.int .i64 e):=by unfold FK at h;simp[World.cell?,h]
theorem FK.c1{W:World}{g:Nat}{e a:Int}(h:FK W g e a):W.cell? ⟨g,1,none⟩=some (.int .i64 a):=by unfold FK at h;simp[World.cell?,h]
theorem FK.fz{W:World}{g:Nat}{e a:Int}(h:FK W g e a)(i:Nat):W.frozen? ⟨g,i,none⟩=false:=by unfold FK at h;simp[World.frozen?,h]
theorem FK.keep{W W':World}{g:Nat}{e a:Int}(h:FK W g e a)(hb:Below W.heap.size W W'):FK W' g e a:=keeps hb h
theorem FK.fill{W:World}{g:Nat}{e a:Int}(h:FK W g e a)(e' a':Int):FK ((W.setCell ⟨g,0,none⟩ (.int .i64 e')).setCell ⟨g,1,none⟩ (.int .i64 a')) g e' a':=by
 unfold FK at h ⊢;have h4:(W.setCell ⟨g,0,none⟩ (.int .i64 e')).heap[g]?=some (.cells #[.int .i64 e',.int .i64 a] 25 (0,0)):=by rw[heap_setCell_same W g 0 _ _ _ h];rfl
 rw[heap_setCell_same _ g 1 _ _ _ h4];rfl
theorem FK.alloc{W:World}{g:Nat}{e a:Int}(h:FK W g e a)(o:Obj):FK (W.alloc o) g e a:=by
 unfold FK at h ⊢;rw[Below.heap_alloc _ _ _ (lt_of_block h)];exact h
theorem TK.alloc_new(W:World)(k f t:Int):TK (W.alloc (.cells #[.int .u8 k,.int .i64 f,.int .i64 t] 52)) W.heap.size k f t:=by
 unfold TK;exact heap_alloc_new _ _
theorem FK.grown{W W':World}{g:Nat}{e a:Int}{b:Option Nat}(h:FK W g e a)(hg:W.grownBy W' b)(hb:b≠some g):FK W' g e a:=by
 unfold FK at h ⊢;rw[hg.block g (lt_of_block h) (λe=>hb e.symm)];exact h
theorem TK.grown{W W':World}{g:Nat}{k f t:Int}{b:Option Nat}(h:TK W g k f t)(hg:W.grownBy W' b)(hb:b≠some g):TK W' g k f t:=by
 unfold TK at h ⊢;rw[hg.block g (lt_of_block h) (λe=>hb e.symm)];exact h
theorem vN{w:World}{B:Nat}{v:Value}{e:TypeId}{size n g:Nat}{xs:List Value}(h:w.ownsRow B e size v n xs)(hg:g<B\/w.heap.size<=g):v.ownBlock≠some g:=by
 intro e;have:=h.lt g e;omega
theorem yG{w W:World}{g:Nat}(h:Below w.heap.size w W)(hg:w.heap.size<=g)(x y:Value):Below w.heap.size w ((W.setCell ⟨g,0,none⟩ x).setCell ⟨g,1,none⟩ y) :=
 (h.setCell (p:=⟨g,0,none⟩) hg x).setCell (p:=⟨g,1,none⟩) hg y
theorem zJg:(Tryz.prog.info? 52).map (λi=>(i.zero,i.size,i.bytes))=some (some (.agg #[.int .u8 0,.int .i64 0,.int .i64 0]),3,24):=Oa
@[irreducible] def allPost(q:List (Int×Nat×Nat)×Int×Int)(w0:World)(e:Ending)(w':World):Prop :=
 ∃v,e=.returned (.tuple #[v,.agg #[.int .i64 q.2.1,.int .i64 q.2.2]])/\Below w0.heap.size w0 w'/\w'.ownsRow w0.heap.size 52 3 v q.1.length (toksV q.1)
def allRel(s:ByteArray)(w:World)(v i:Value)(wr:World):Prop :=
 ∃(pos:Nat) (l:List (Int×Nat×Nat)),i=.int .i64 pos/\pos<=s.size/\(alls s 0).1=l++(alls s pos).1/\(alls s 0).2=(alls s pos).2/\Below w.heap.size w wr/\
  wr.ownsRow (w.heap.size+1) 52 3 v l.length (toksV l)/\FK wr w.heap.size 0 0
theorem yDo(s:ByteArray)(hs:s.size<=2147483647)(w:World)(hT:Tabs w)(hM:MaxC w) :
  Calls Tryz.prog 87 #[.string s] w (allPost (scanAll s) w):=by
 have HQ:Hid (∀w' v l e a,scanAll s=(l,e,a)->Below w.heap.size w w'->w'.ownsRow w.heap.size 52 3 v l.length (toksV l)->allPost (scanAll s) w (.returned (.tuple #[v,.agg #[.int .i64 e,.int .i64 a]])) w'):=Hd λw' v l e a h h2 h3=>by
  unfold allPost;rw[h];exact⟨v,rfl,h2,h3⟩
 have HV:Hid (scanAll s=_):=Hd (by unfold scanAll;rfl);generalize allPost (scanAll s) w=Q at *;have CC:=Hd (λw' (hb:Below w.heap.size w w')=>zTq s w' (hT.below hb));have CN:=Hd (λa ha w' (hb:Below w.heap.size w w')=>zTv s a ha hs w' (hT.below hb) (hM.below hb));have HF:Hid (∀(tm:Array Value) W' v l e a,scanAll s=(l,e,a)->Below w.heap.size w W'->W'.ownsRow w.heap.size 52 3 v l.length (toksV l)->FK W' w.heap.size e a->tm.getD 3 undef=.pointer (some ⟨w.heap.size,0,none⟩)->tm.getD 2 undef=v->bodyPost Tryz.prog Tryz.f87 Q .ret ⟨tm,[]⟩ W') :=
  Hd λtm W' v l e a h1 h2 h3 h4 h5 h6=>by
   refine bodyPost_ret (kX rfl tm W' w.heap.size 25 #[.int .i64 e,.int .i64 a] (0,0) _ h5 h4 Tryz.underlying25 rfl Oa) rfl ?_;rw[h6];exact HQ.out W' v l e a h1 h2 h3
 have hT4:FK (w.alloc (.cells #[.int .i64 0,.int .i64 0] 25)) w.heap.size 0 0:=by
  unfold FK;exact heap_alloc_new _ _
 have hbW:Below w.heap.size w (w.alloc (.cells #[.int .i64 0,.int .i64 0] 25)):=(bR _ _).alloc (nR _) _;have H4:=Hd hT4;have HBW:=Hd hbW;clear hT4 hbW;by_cases hbig:65536<s.size
 .rw[iP hbig]at HV;have hbig':(65536:Int)<s.size:=Z;go_enter Tryz.func87,Tryz.ntmps87;go_wp2_with fail;refine HF.out _ _ _ [] 2 0 HV.out ?_ ?_ ?_ rfl rfl
  .exact(bR _ _).alloc (nR _) _
  .exact World.ownsRow_nil _ _ _ _
  .unfold FK;exact heap_alloc_new _ _
 .rw[iN hbig]at HV;have hbig':¬(65536:Int)<s.size:=Z;have hsz:s.size<=65536:=Z;generalize clean s=cl at *;by_cases hcl:0<=cl
  .rw[iP hcl]at HV;go_enter Tryz.func87,Tryz.ntmps87;go_wp2_with fail;refine(CC.out _ HBW.out).mono ?_;rintro e w2 ⟨rfl,hb2⟩;have HB2:=Hd (zD HBW.out hb2);have H42:=Hd (H4.out.keep hb2);clear hb2;have z40:=H42.out.fz 0;have z41:=H42.out.fz 1;have c40:=H42.out.c0;have c41:=H42.out.c1;go_wp2_with fail;exact HF.out _ _ _ [] 3 cl HV.out (yG HB2.out (nR _) _ _) (World.ownsRow_nil _ _ _ _) (H42.out.fill _ _) rfl rfl
  .rw[iN hcl]at HV;have hcl':¬(0:Int)<=cl:=hcl;go_enter Tryz.func87,Tryz.ntmps87;go_wp2_with fail;refine(CC.out _ HBW.out).mono ?_;rintro e w2 ⟨rfl,hb2⟩;have HB2:=Hd (zD HBW.out hb2);have H42:=Hd (H4.out.keep hb2);clear hb2;go_wp2_with fail;go_loopw [5,6] (λv i wr=>allRel s w v i wr) (λ_ i _=>s.size-(intOf i).toNat)
   case atStart=>exact⟨0,[],rfl,Nat.zero_le _,rfl,rfl,HB2.out,World.ownsRow_nil _ _ _ _,H42.out⟩
   case round =>
    obtain⟨pos,l,rfl,hpos,h1,h2,hb,ho,hf⟩:=hrel;have HB:=Hd hb;have HO:=Hd ho;have HFK:=Hd hf;have HL:=Hd h1;have HE:=Hd h2;have hbase:=hb.size;have hlt0:=lt_of_block (show wr.heap[w.heap.size]?=some _ from hf);have hlen:l.length<=65536:=by
     have:=zHo s 0;rw[h1,lA]at this;omega
    clear hb ho hf h1 h2;by_cases hlt:pos<s.size
    .have hlt':(pos:Int)<s.size:=Z;have HN:Hid (nextZ s pos=if(lex s pos).1=0 then(0,0,0,4)else((lex s pos).1,(pos:Int),(lex s pos).2,0)):=Hd (by unfold nextZ;rfl);have CNp:=Hd (CN.out pos hlt);have HGT:=Hd (zBh s pos hlt);have HAB:=Hd (@fO s pos hlt);have HAS:=Hd (λe k=>@vI s pos e k hlt);go_wp2_with fail;refine(CNp.out _ HB.out).mono ?_;intro e w3 h3;unfold nextPost at h3;rw[HN.out]at h3;generalize lex s pos=q at *;obtain⟨k,t⟩:=q;simp only[]at *;by_cases hk:k=0
     .rw[iP hk]at h3;obtain⟨rfl,hb3⟩:=h3;have HB3:=Hd (zD HB.out hb3);have HF3:=Hd (HFK.out.keep hb3);have hz3:w.heap.size<w3.heap.size:=Nat.lt_of_lt_of_le hlt0 hb3.size;have HV2:Hid (scanAll s=([],4,(pos:Int))):=Hd (by rw[HV.out,HE.out,HAB.out hk]);clear hb3 HV;have z40:=HF3.out.fz 0;have z41:=HF3.out.fz 1;have c40:=HF3.out.c0;have c41:=HF3.out.c1;go_wp2_with fail;refine HF.out _ _ _ [] 4 pos HV2.out ((yG HB3.out (nR _) _ _).alloc ?_ _) (World.ownsRow_nil _ _ _ _) ((HF3.out.fill _ _).alloc _) rfl rfl;exact(yG HB3.out (nR _) _ _).size
     .rw[iN hk]at h3;obtain⟨rfl,hb3⟩:=h3;obtain⟨e,rfl,he1,he2⟩:=HGT.out hk;have hst:=HAS.out e k rfl hk;obtain⟨va,vm,vc,rfl⟩:=zI HO.out;have HB3:=Hd (zD HB.out hb3);have HF3:=Hd ((HFK.out.keep hb3).alloc (.cells #[.int .u8 k,.int .i64 (pos:Int),.int .i64 (e:Int)] 52));have HO3:=Hd ((yM HO.out hb3).alloc (.cells #[.int .u8 k,.int .i64 (pos:Int),.int .i64 (e:Int)] 52));have HOx:=Hd (yM HO.out hb3);have HT3:=Hd (TK.alloc_new w3 k pos e);have hs3:w.heap.size+1<=(w3.alloc (.cells #[.int .u8 k,.int .i64 (pos:Int),.int .i64 (e:Int)] 52)).heap.size:=by
       have:=HB3.out.size;simp;omega
      have HBA:=Hd (HB3.out.alloc HB3.out.size (.cells #[.int .u8 k,.int .i64 (pos:Int),.int .i64 (e:Int)] 52));have hm1:Hid ((alls s 0).1=(l++[(k,pos,e)])++(alls s e).1):=Hd (by rw[HL.out,hst];simp);have hm2:Hid ((alls s 0).2=(alls s e).2):=Hd (by rw[HE.out,hst]);clear hb3 HAB HAS HGT HN hst CNp;have hkb:(k==0)=false:=by rw[bE];exact hk
      have hT30:=HT3.out.c0;have hT31:=HT3.out.c1;have hT32:=HT3.out.c2;have hgt3:w3.heap.size<(w3.alloc (.cells #[.int .u8 k,.int .i64 (pos:Int),.int .i64 (e:Int)] 52)).heap.size:=Ob;go_upto_region 12 with(fail);generalize w3.alloc (.cells #[.int .u8 k,.int .i64 (pos:Int),.int .i64 (e:Int)] 52)=WA at *;have HOA:=Hd HO3.out;go_wp2_with (at_builtin;refine zQ WA #[.int .u8 k,.int .i64 (pos:Int),.int .i64 (e:Int)] _ rfl _ _ 40 52 rfl Tryz.underlying40 (w.heap.size+1) zJg rfl V _ _ _ rfl HO3.out 1 1 rfl rfl V (by intro u hu;simp at hu;rcases hu with rfl|rfl|rfl<;>rfl) Z Z hs3 ?_);intro v' w' hown hgr _;have hb4:=xM HBA.out Z (jZ HO3.out (Nat.le_succ _)) hgr;have hnf:(Value.slice va vm vc).ownBlock≠some w.heap.size:=vN HOx.out (Or.inl (Nat.lt_succ_self _));have hnt:(Value.slice va vm vc).ownBlock≠some w3.heap.size:=vN HOx.out (Or.inr (nR _));have HF4:=Hd ((HF3.out.alloc _).grown hgr hnf);have HT4:=Hd (TK.grown (W:=_) (by unfold TK;rw[Below.heap_alloc _ _ _ hgt3];exact HT3.out) hgr hnt);have HR:Hid (allRel s w v' (.int .i64 (e:Int)) w'):=Hd ⟨e,l++[(k,pos,e)],rfl,he2,hm1.out,hm2.out,hb4,by rw[lA,zHp];exact hown,HF4.out⟩;have t2:=HT4.out.c2;clear hown hgr hb4 hnf hnt;go_wp2_with fail;refine⟨?_,(by simp[intOf];try omega)⟩;first
       |exact HR.out
       | (repeat apply Exists.intro
          refine⟨?_,rfl⟩;exact HR.out)
    .have hlt':¬(pos:Int)<s.size:=Z;have HV2:Hid (scanAll s=(l,0,0)):=Hd (by
      have e:=gN (s:=s) (i:=pos) hlt;rw[HV.out,HE.out,e];have:=HL.out;rw[e,List.append_nil]at this;rw[this])
     clear HV;have z40:=HFK.out.fz 0;have z41:=HFK.out.fz 1;have c40:=HFK.out.c0;have c41:=HFK.out.c1;go_wp2_with fail;have hnf:u5.ownBlock≠some w.heap.size:=vN HO.out (Or.inl (Nat.lt_succ_self _));refine HF.out _ _ _ l 0 0 HV2.out (yG HB.out (nR _) _ _) (jZ (ownsRow_setCell_other (ownsRow_setCell_other HO.out (a:=⟨w.heap.size,0,none⟩) hnf _) (a:=⟨w.heap.size,1,none⟩) hnf _) (Nat.le_succ _)) (HFK.out.fill _ _) rfl rfl
end Go.Proofs.YtfpjdpdmgceciaaGreatDoor
namespace Go.Proofs.YtfpjdpdmgceciaaGreatDoor
set_option linter.all false
def endWords:List (List UInt8):=[[98,114,101,97,107],[99,111,110,116,105,110,117,101],[102,97,108,108,116,104,114,111,117,103,104],[114,101,116,117,114,110]]
def endSigns:List (List UInt8):=[[43,43],[45,45],[41],[93],[125]]
@[irreducible] def endsK(k:Int)(t:ByteArray):Bool :=
 if k=1\/(3<=k/\k<=7)then true else if k=2 then endWords.any λw=>t.toList==w else if k=8 then endSigns.any λw=>t.toList==w else false
def silentK(k:Int):Bool:=k==10 || k==11 || k==12
abbrev Tok:=Int×Nat×Nat
def flushZ(q:List Tok×Option Nat):List Tok×Option Nat:=match q.2 with
 |some e=>(q.1++[(9,e,e)],none)
 |none=>q
def hasNl(s:ByteArray)(t:Tok):Bool:=decide (0<=Lib.indexByte (s.extract t.2.1 t.2.2).data.toList 10)
def semiStep(s:ByteArray)(q:List Tok×Option Nat)(t:Tok):List Tok×Option Nat :=
 if silentK t.1 then(if hasNl s t then flushZ q else q)
 else(q.1++[t],if endsK t.1 (s.extract t.2.1 t.2.2)then some t.2.2 else none)
def semiFold(s:ByteArray)(l:List Tok):List Tok×Option Nat:=l.foldl (semiStep s) ([],none)
@[irreducible] def semiAll(s:ByteArray):List Tok×Int×Int :=
 if(scanAll s).2.1=0/\(scanAll s).2.2=0 then((flushZ (semiFold s (scanAll s).1)).1,0,0)else([],(scanAll s).2.1,(scanAll s).2.2)
theorem zJj(q:List Tok×Option Nat):(flushZ q).1.length<=q.1.length+1/\q.1.length<=(flushZ q).1.length:=by
 unfold flushZ;split<;>simp
theorem zNw(s:ByteArray)(q:List Tok×Option Nat)(t:Tok):(semiStep s q t).1.length<=q.1.length+1:=by
 unfold semiStep;split
 .split
  .exact(zJj q).1
  .omega
 .simp
theorem zKg(s:ByteArray)(l:List Tok)(t:Tok):semiFold s (l++[t])=semiStep s (semiFold s l) t:=by unfold semiFold;rw[List.foldl_append];rfl
theorem zEi(s:ByteArray)(l:List Tok):(semiFold s l).1.length<=l.length:=by
 have:∀(l:List Tok)(q:List Tok×Option Nat),(l.foldl (semiStep s) q).1.length<=q.1.length+l.length:=by
  intro l;induction l with
  |nil=>intro q;simp
  |cons t l ih =>
   intro q;have h1:=ih (semiStep s q t);have h2:=zNw s q t;simp only[List.foldl_cons,lC];omega
 have:=this l ([],none)
 simpa[semiFold]using this
theorem zNx(s:ByteArray)(i:Nat):∀t∈(alls s i).1,i<=t.2.1/\t.2.1<t.2.2/\t.2.2<=s.size/\t.1≠0:=by
 by_cases h:i<s.size
 .by_cases hk:(lex s i).1=0
  .rw[fO h hk];intro t ht;cases ht
  .obtain⟨e,h1,h2,h3⟩:=zBh s i h hk;rw[vI h (show lex s i=((lex s i).1,(e:Int))by rw[<-h1]) hk];intro t ht;rcases List.mem_cons.1 ht with rfl|ht
   .exact⟨nR _,h2,h3,hk⟩
   .have:=zNx s e t ht;exact⟨Z,this.2⟩
 .rw[gN h];intro t ht;cases ht
termination_by s.size-i
decreasing_by omega
theorem zUc(s:ByteArray):∀t∈(scanAll s).1,t.2.1<t.2.2/\t.2.2<=s.size:=by
 unfold scanAll;split
 .intro t ht;cases ht
 .split
  .intro t ht;cases ht
  .split
   .intro t ht;cases ht
   .intro t ht;have:=zNx s 0 t ht;exact⟨this.2.1,this.2.2.1⟩
theorem zGg(s:ByteArray):(scanAll s).1.length<=65536:=by
 unfold scanAll;split
 .simp
 .split
  .simp
  .split
   .simp
   .have:=zHo s 0;simp only[];omega
def flushL:Option Nat->List Tok
 |some e=>[(9,e,e)]
 |none=>[]
def semiRec(s:ByteArray):Option Nat->List Tok->List Tok
 |en,[]=>flushL en
 |en,t::r=>if silentK t.1 then(if hasNl s t then flushL en++semiRec s none r else semiRec s en r)
   else t::semiRec s (if endsK t.1 (s.extract t.2.1 t.2.2)then some t.2.2 else none) r
theorem zBs(s:ByteArray):∀(l:List Tok)(o:List Tok)(en:Option Nat),(flushZ (l.foldl (semiStep s) (o,en))).1=o++semiRec s en l
 |[],o,en=>by
  cases en with
  |none=>simp[flushZ,semiRec,flushL]
  |some e=>simp[flushZ,semiRec,flushL]
 |t::r,o,en=>by
  rw[List.foldl_cons];unfold semiStep;rw[semiRec];by_cases hs:silentK t.1=true
  .rw[iP hs,iP hs];by_cases hn:hasNl s t=true
   .rw[iP hn,iP hn];cases en with
    |none=>exact(zBs s r o none).trans (by simp[flushL])
    |some e=>exact(zBs s r (o++[(9,e,e)]) none).trans (by simp[flushL])
   .rw[iN hn,iN hn];exact zBs s r o en
  .rw[iN hs,iN hs];exact(zBs s r (o++[t]) _).trans Ob
theorem fI(s:ByteArray)(h:(scanAll s).2.1=0/\(scanAll s).2.2=0):semiAll s=(semiRec s none (scanAll s).1,0,0):=by
 unfold semiAll;rw[iP h];have:=zBs s (scanAll s).1 [] none;unfold semiFold;rw[this,List.nil_append]
theorem zGh(s:ByteArray):(semiAll s).1.length<=65537:=by
 unfold semiAll;split
 .have h1:=zGg s;have h2:=zEi s (scanAll s).1;have h3:=(zJj (semiFold s (scanAll s).1)).1;simp only[];omega
 .simp
def inOrd(sz:Nat):Nat->List Tok->Prop
 |_,[]=>True
 |a,t::r=>a<=t.2.1/\t.2.1<=t.2.2/\t.2.2<=sz/\inOrd sz t.2.2 r
theorem zRb(s:ByteArray)(i:Nat):inOrd s.size i (alls s i).1:=by
 by_cases h:i<s.size
 .by_cases hk:(lex s i).1=0
  .rw[fO h hk];trivial
  .obtain⟨e,h1,h2,h3⟩:=zBh s i h hk;rw[vI h (show lex s i=((lex s i).1,(e:Int))by rw[<-h1]) hk];exact⟨nR _,Nat.le_of_lt h2,h3,zRb s e⟩
 .rw[gN h];trivial
termination_by s.size-i
decreasing_by omega
theorem zRc(s:ByteArray):inOrd s.size 0 (scanAll s).1:=by
 unfold scanAll;split
 .trivial
 .split
  .trivial
  .split
   .trivial
   .exact zRb s 0
theorem jO(s:ByteArray)(sz:Nat):∀(l:List Tok)(en:Option Nat)(a b:Nat),inOrd sz a l->b<=a->(∀e,en=some e->b<=e/\e<=a/\e<=sz)->inOrd sz b (semiRec s en l)
 |[],en,a,b,_,_,he=>by
  cases en with
  |none=>trivial
  |some e=>obtain⟨h1,h2,h3⟩:=he e rfl;exact⟨h1,nR _,h3,trivial⟩
 |t::r,en,a,b,h,hb,he=>by
  obtain⟨h1,h2,h3,h4⟩:=h;rw[semiRec];by_cases hs:silentK t.1=true
  .rw[iP hs];by_cases hn:hasNl s t=true
   .rw[iP hn];cases en with
    |none=>exact jO s sz r none t.2.2 b h4 Z (λe he=>by cases he)
    |some e =>
     obtain⟨g1,g2,g3⟩:=he e rfl;exact⟨g1,nR _,g3,jO s sz r none t.2.2 e h4 Z (λe he=>by cases he)⟩
   .rw[iN hn];exact jO s sz r en t.2.2 b h4 Z (λe hee=>by obtain⟨g1,g2,g3⟩:=he e hee;exact⟨g1,Z,g3⟩)
  .rw[iN hs];refine⟨Z,h2,h3,jO s sz r _ t.2.2 t.2.2 h4 (nR _) (λe hee=>?_)⟩;split at hee
   .cases hee;exact⟨nR _,nR _,h3⟩
   .cases hee
theorem zGi(s:ByteArray):inOrd s.size 0 (semiAll s).1:=by
 by_cases h:(scanAll s).2.1=0/\(scanAll s).2.2=0
 .rw[fI s h];exact jO s s.size _ none 0 0 (zRc s) (nR _) (λe he=>by cases he)
 .unfold semiAll;rw[iN h];trivial
open Go.RowKit
theorem zVp{w:World}{B:Nat}{v:Value}{l:List (Int×Nat×Nat)}(h:w.ownsRow B 52 3 v l.length (toksV l))(hpos:0<l.length) :
  ∃b cap,v=.slice (some ⟨b,0,none⟩) l.length cap/\l.length<=cap/\b<w.heap.size/\∀i (hi:i<l.length),w.cell? ⟨b,i*3,none⟩=some (.int .u8 l[i].1)/\w.cell? ⟨b,i*3+1,none⟩=some (.int .i64 (l[i].2.1:Nat))/\w.cell? ⟨b,i*3+2,none⟩=some (.int .i64 (l[i].2.2:Nat)):=by
 rcases h.2 with⟨hv,hn⟩|⟨g,cap,cur,hv,hg,hh,hnc,_,hcs,htk⟩
 .omega
 .have hown:w.ownsRow B 52 3 (.slice (some ⟨g,0,none⟩) l.length cap) l.length (toksV l):=hv▸h;refine⟨g,cap,hv,hnc,yH hh,λi hi=>?_⟩;have key:∀(l:List (Int×Nat×Nat)) i (hi:i<l.length),(toksV l)[i*3]?=some (.int .u8 l[i].1)/\(toksV l)[i*3+1]?=some (.int .i64 (l[i].2.1:Nat))/\(toksV l)[i*3+2]?=some (.int .i64 (l[i].2.2:Nat)):=by
   intro l;induction l with
   |nil=>intro i hi;simp at hi
   |cons t l ih =>
    intro i hi;have e:toksV (t::l)=tokV t++toksV l:=rfl;cases i with
    |zero=>exact⟨rfl,rfl,rfl⟩
    |succ i =>
     have:=ih i (by simpa using hi);rw[e];simp only[List.getElem_cons_succ];rw[List.getElem?_append_right (by simp[tokV];omega),List.getElem?_append_right (by simp[tokV];omega),List.getElem?_append_right (by simp[tokV];omega)];have e1:(i+1)*3-(tokV t).length=i*3:=by simp[tokV];omega
     have e2:(i+1)*3+1-(tokV t).length=i*3+1:=by simp[tokV];omega
     have e3:(i+1)*3+2-(tokV t).length=i*3+2:=by simp[tokV];omega
     rw[e1,e2,e3];exact this
  have hk:=key l i hi;have hlen:=zLz l;refine⟨?_,?_,?_⟩
  .rw[hown.cellAt (i*3) Z];exact hk.1
  .rw[hown.cellAt (i*3+1) Z];exact hk.2.1
  .rw[hown.cellAt (i*3+2) Z];exact hk.2.2
theorem TokRow.of_owns{w:World}{B:Nat}{v:Value}{l:List Tok}(h:w.ownsRow B 52 3 v l.length (toksV l)):TokRow w v l:=by
 obtain⟨_,a,cap,hv,hc,_,_⟩:=Row.of_owns h;refine⟨a,cap,hv,hc,λhpos=>?_⟩;obtain⟨b,cap',hv',_,hbl,hcell⟩:=zVp h hpos;rw[hv]at hv';simp only[Value.slice.injEq]at hv';exact⟨b,hv'.1,hbl,hcell⟩
end Go.Proofs.YtfpjdpdmgceciaaGreatDoor
