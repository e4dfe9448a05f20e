/- Layer 7 in plain Lean: names and literals of one text in another one. -/
import Derived.Test.YtfpjdpdmgceciaaGreatDoorLexPTg
import Derived.Test.YtfpjdpdmgceciaaGreatDoorSemiTg
import Derived.Test.YtfpjdpdmgceciaaGreatDoorCoreTg
import Derived.Test.YtfpjdpdmgceciaaGreatDoorStillTg
import Derived.Deep.QuietTactic
import Derived.BigQuiet
namespace Go.Proofs.YtfpjdpdmgceciaaGreatDoor
set_option linter.all false
attribute [local irreducible] signL zA
def SameE(s:ByteArray)(i:Nat)(u:ByteArray)(i' n:Nat):Prop:=i+n<=s.size/\i'+n<=u.size/\u.extract i' (i'+n)=s.extract i (i+n)
def enL:List Nat:=[32,40,41,44,46,58,91,93]
def NxE(u:ByteArray)(e:Nat):Prop:=e=u.size\/bt u e∈enL
theorem zMa:∀c∈enL,c<128/\letter c=false/\digit c=false/\10<=dval c/\c≠47/\c≠42/\c≠120/\c≠88:=by
 unfold letter digit;decide +kernel
theorem yHe:∀c∈enL,c≠46->¬(c=95\/c=46\/dval c<10\/(97<=c/\c<=122)\/(65<=c/\c<=90)\/c=43\/c=45):=V
section
variable {s u:ByteArray} {i i' n:Nat}
theorem SameE.bt(H:SameE s i u i' n){j:Nat}(h:j<n):bt u (i'+j)=bt s (i+j):=by
 obtain⟨h1,h2,h3⟩:=H;rw[<-gZ (s:=u) (i:=i') (e:=i'+n) (j:=j) Z h2,<-gZ (s:=s) (i:=i) (e:=i+n) (j:=j) Z h1,h3]
theorem SameE.rd(H:SameE s i u i' n){j:Nat}(hj:j<n)(h0:(rd s (i+j)).2≠0)(h:j+(rd s (i+j)).2<=n):rd u (i'+j)=rd s (i+j):=by
 obtain⟨h1,h2,h3⟩:=H;have e1:=zJr (s:=s) (i:=i) (e:=i+n) (j:=j) Z h1 h0 Z;rw[<-e1,<-h3];refine zGe Z h2 Z ?_;rw[h3,e1];exact h0
theorem zOs(H:SameE s i u i' n)(hx:NxE u (i'+n))(j:Nat)(hj:j<=n)(h:wordTo s (i+j)=i+n):wordTo u (i'+j)=i'+n:=by
 have H1:=H.1;have H2:=H.2.1;by_cases hw:i+j<s.size/\inWord s (i+j)=true
 .have hstep:wordTo s (i+j)=wordTo s (i+j+(rd s (i+j)).2):=by rw[wordTo,dif_pos hw]
  have h0:(rd s (i+j)).2≠0:=by have:=hw.2;unfold inWord at this;simp at this;exact this.1
  have hwd:=xH s (i+j);have hle:=(gH s (i+j+(rd s (i+j)).2) Z).1;rw[hstep]at h;have hr:=H.rd (j:=j) Z h0 Z;have hin:inWord u (i'+j)=true:=by have:=hw.2;unfold inWord at this ⊢;rw[hr];exact this
  rw[wordTo,dif_pos ⟨Z,hin⟩,hr,Nat.add_assoc];exact zOs H hx (j+(rd s (i+j)).2) Z (by rw[<-Nat.add_assoc];exact h)
 .have hstop:wordTo s (i+j)=i+j:=by rw[wordTo,dif_neg hw]
  obtain rfl:j=n:=Z;rw[wordTo,dif_neg];rintro⟨g1,g2⟩;rcases hx with hx|hx
  .omega
  .obtain⟨a1,a2,a3,_⟩:=zMa _ hx;unfold inWord at g2;rw[vF g1 a1]at g2;simp[a2,a3]at g2
termination_by n-j
decreasing_by omega
theorem zUr(H:SameE s i u i' n)(hx:NxE u (i'+n))(hd:i'+n<u.size->bt u (i'+n)≠46)(hex:Bool)(j:Nat)(hj:j<=n)(h:numTo s i hex (i+j)=i+n):numTo u i' hex (i'+j)=i'+n:=by
 have H1:=H.1;have H2:=H.2.1;by_cases hw:i+j<s.size/\numCh s i hex (i+j)=true
 .rw[kK hw.1 hw.2]at h;have hle:=(zEe s i hex (i+j+1) Z).1;have hjn:j<n:=Z;have hc:numCh u i' hex (i'+j)=numCh s i hex (i+j):=by
   have h1:=H.bt hjn;unfold numCh;rw[h1];by_cases h0:j=0
   .subst h0;simp
   .have h2:=H.bt (j:=j-1) Z;rw[show i'+j-1=i'+(j-1)by omega,show i+j-1=i+(j-1)by omega,h2,show decide (i'<i'+j)=decide (i<i+j)by simp]
  rw[kK Z (by rw[hc];exact hw.2),Nat.add_assoc];exact zUr H hx hd hex (j+1) Z (by rw[<-Nat.add_assoc];exact h)
 .rw[fX hw]at h;obtain rfl:j=n:=Z;rw[fX];rintro⟨g1,g2⟩;rcases hx with hx|hx
  .omega
  .have:=yHe _ hx (hd g1);unfold numCh at g2;simp only[Bool.or_eq_true,Bool.and_eq_true,decide_eq_true_eq]at g2;omega
termination_by n-j
decreasing_by omega
theorem jF{c:Prop}[Decidable c]{a b:Nat}(h1:a=0\/3<=a)(h2:b=0\/3<=b):(if c then a else b)=0\/3<=(if c then a else b):=by split<;>assumption
theorem zOt(l:List Nat):kindL l≠1:=by
 have z:(0:Nat)=0\/3<=0:=Or.inl rfl;have t:(3:Nat)=0\/3<=3:=Or.inr (nR _);have f:(4:Nat)=0\/3<=4:=Or.inr Z;have w:∀b l,wholeL b l=0\/3<=wholeL b l:=λb l=>jF t z;have x:∀l,zJ l=0\/3<=zJ l:=λl=>jF t (jF z (jF z (jF z (jF f z))))
 have n:∀l,tenL l=0\/3<=tenL l:=λl=>jF (jF t (w _ _)) (jF z (jF f z))
 have r:∀l,realL l=0\/3<=realL l:=λl=>jF (jF (w _ _) (jF (w _ _) (jF (x _) (n _)))) (n _)
 have k:kindL l=0\/3<=kindL l:=jF (r _) (jF z (jF (Or.inr Z) z));omega
set_option maxHeartbeats 4000000 in
theorem yGk(H:SameE s i u i' n)(hn:0<n)(hx:NxE u (i'+n))(hk:(lex s i).1=1\/(3<=(lex s i).1/\(lex s i).1<=7))(hd:(lex s i).1≠1->i'+n<u.size->bt u (i'+n)≠46)(he:(lex s i).2=(i+n:Nat)):lex u i'=((lex s i).1,((i'+n:Nat):Int))/\¬(rd s i).1=65279/\(rd s i).2≠0/\(rd s i).2<=n:=by
 have H1:=H.1;have H2:=H.2.1;have hi:i<s.size:=Z;have hi':i'<u.size:=Z;have b0:=H.bt hn;rw[Nat.add_zero,Nat.add_zero]at b0;have hasc:bt s i<128->rd u i'=rd s i:=λg=>by rw[vF hi g,vF hi' (by rw[b0];exact g),b0]
 have next:∀c,c=47\/c=42->(i'+1<u.size/\bt u i'=47/\bt u (i'+1)=c)->i+1<s.size/\bt s i=47/\bt s (i+1)=c:=λc hc g=>by
  rcases Nat.lt_or_ge 1 n with g1|g1
  .have b1:=H.bt (j:=1) g1;exact⟨Z,by rw[<-b0];exact g.2.1,by rw[<-b1];exact g.2.2⟩
  .obtain rfl:n=1:=Z;rcases hx with hx|hx
   .omega
   .obtain⟨_,_,_,_,a1,a2,_⟩:=zMa _ hx;have:=g.2.2;omega
 by_cases c1:(rd s i).1=65279
 .have:(lex s i).1=10:=by unfold lex;rw[iP c1]
  omega
 by_cases c2:blank (rd s i).1=true
 .have:(lex s i).1=10:=by unfold lex;rw[iN c1,iP c2]
  omega
 by_cases c3:i+1<s.size/\bt s i=47/\bt s (i+1)=47
 .have:(lex s i).1=11:=by unfold lex;rw[iN c1,iN c2,iP c3]
  omega
 have n3:¬(i'+1<u.size/\bt u i'=47/\bt u (i'+1)=47):=λg=>c3 (next 47 (Or.inl rfl) g)
 by_cases c4:i+1<s.size/\bt s i=47/\bt s (i+1)=42
 .have:(lex s i).1=12\/(lex s i).1=0:=by
   unfold lex;rw[iN c1,iN c2,iN c3,iP c4];cases blockTo s (i+2)<;>simp
  omega
 have n4:¬(i'+1<u.size/\bt u i'=47/\bt u (i'+1)=42):=λg=>c4 (next 42 (Or.inr rfl) g)
 by_cases c5:letter (rd s i).1=true
 .have hl:lex s i=if word (s.extract i (wordTo s i))then(2,(wordTo s i:Int))else(1,(wordTo s i:Int)):=by unfold lex;rw[iN c1,iN c2,iN c3,iN c4,iP c5]
  have h0:(rd s i).1≠0:=λh0=>by rw[h0]at c5;have:=zFs;simp_all
  have hp:=zLy h0;have hw:inWord s i=true:=by unfold inWord;simp[hp.1,c5]
  have hstep:wordTo s i=wordTo s (i+(rd s i).2):=by rw[wordTo,dif_pos ⟨hi,hw⟩]
  have hge:=(gH s (i+(rd s i).2) hp.2).1;have hew:wordTo s i=i+n:=by
   rw[hl]at he;split at he<;>(simp only[]at he;omega)
  have hr:=H.rd (j:=0) hn (by rw[Nat.add_zero];exact hp.1) (by rw[Nat.add_zero];omega);rw[Nat.add_zero,Nat.add_zero]at hr;have hwp:=zOs H hx 0 (Nat.zero_le _) hew;rw[Nat.add_zero]at hwp;refine⟨?_,c1,hp.1,Z⟩;rw[hl,hew];unfold lex;rw[hr,iN c1,iN c2,iN n3,iN n4,iP c5,hwp,H.2.2];split<;>rfl
 by_cases c6:bt s i=59
 .have:(lex s i).1=9:=by unfold lex;rw[iN c1,iN c2,iN c3,iN c4,iN c5,iP c6]
  omega
 have n6:¬bt u i'=59:=by rw[b0];exact c6
 have hw1:bt s i<128->(rd s i).2≠0/\(rd s i).2<=n:=λg=>by rw[vF hi g];exact⟨Nat.one_ne_zero,hn⟩
 by_cases c7:(numScan s i).2.2≠15
 .have hb:numBegins s i=true:=by
   unfold numScan at c7;rw[Int.toNat_natCast]at c7;by_cases g:(0:Int)<=(i:Int)/\numBegins s i=true
   .exact g.2
   .rw[iN g]at c7;exact absurd rfl c7
  have hl:lex s i=((numScan s i).1,(numScan s i).2.1):=by unfold lex;rw[iN c1,iN c2,iN c3,iN c4,iN c5,iN c6,iP c7]
  have hk1:(lex s i).1≠1:=λe=>by
   rw[hl,jN hb]at e;simp only[]at e;split at e<;>simp only[]at e
   .exact zOt _ (by exact_mod_cast e)
   .omega
  rw[hl]at he hk ⊢;simp only[]at he hk ⊢;have hg:=zFc hb;have hend:numEnd s i=i+n:=by
   rw[jN hb]at he hk;split at he
   .simp only[]at he;omega
   .rename_i g;rw[iN g]at hk;simp at hk
  have hx2:numHex u i'=numHex s i:=by
   rcases Nat.lt_or_ge 1 n with g1|g1
   .have b1:=H.bt (j:=1) g1;unfold numHex;rw[b0,b1,show decide (i'+1<u.size)=decide (i+1<s.size)by rw[decide_eq_decide];omega]
   .obtain rfl:n=1:=Z;cases e1:numHex s i with
    |true=>have:=zTo e1;omega
    |false =>
     cases e2:numHex u i' with
     |false=>rfl
     |true =>
      unfold numHex at e2;simp only[Bool.and_eq_true,decide_eq_true_eq]at e2;rcases hx with hx|hx
      .omega
      .obtain⟨_,_,_,_,_,_,a1,a2⟩:=zMa _ hx;omega
  have hend':numEnd u i'=i'+n:=by
   have:=zUr H hx (hd hk1) (numHex s i) 0 Z hend;unfold numEnd;rw[hx2];exact this
  have hb':numBegins u i'=true:=by
   have h0:=zCt hb;unfold numBegins;simp only[Bool.and_eq_true,decide_eq_true_eq,Bool.or_eq_true];rw[b0];refine⟨Z,?_⟩;rcases h0 with g|⟨g,g2,g3,g4⟩
   .exact Or.inl g
   .exact Or.inr ⟨g,Z,by rw[H.bt (j:=1) Z];exact g3⟩
  have hlow:bt s i<128:=by
   rcases zCt hb with g|⟨g,_⟩
   .exact zRo g
   .omega
  have hr:=hasc hlow;have hsc:numScan u i'=((numScan s i).1,((i'+n:Nat):Int),0):=by
   rw[jN hb]at hk ⊢;rw[jN hb',hend',H.2.2];rw[hend]at hk ⊢;by_cases h:kindL (zA (s.extract i (i+n)))≠0
   .simp only[iP h]
   .rw[iN h]at hk;simp at hk
  refine⟨?_,c1,hw1 hlow⟩;unfold lex;rw[hr,iN c1,iN c2,iN n3,iN n4,iN c5,iN n6,hsc];rw[iP (by show(0:Int)≠15;decide)]
 have n7:¬(numScan u i').2.2≠15:=λg=>c7 (by
  have hb':numBegins u i'=true:=by
   unfold numScan at g;rw[Int.toNat_natCast]at g;by_cases g2:(0:Int)<=(i':Int)/\numBegins u i'=true
   .exact g2.2
   .rw[iN g2]at g;exact absurd rfl g
  have hb:numBegins s i=true:=by
   unfold numBegins at hb' ⊢;simp only[Bool.and_eq_true,decide_eq_true_eq,Bool.or_eq_true]at hb' ⊢;rw[b0]at hb';refine⟨hi,?_⟩;rcases hb'.2 with g|⟨g,g2,g3⟩
   .exact Or.inl g
   .rcases Nat.lt_or_ge 1 n with g1|g1
    .exact Or.inr ⟨g,Z,by rw[<-H.bt (j:=1) g1];exact g3⟩
    .obtain rfl:n=1:=Z;rcases hx with hx|hx
     .omega
     .have:=(zMa _ hx).2.2.2.1;omega
  rw[jN hb];split<;>simp)
 by_cases c8:(begun s i).2.2.2≠15
 .have hl:lex s i=((begun s i).1,(begun s i).2.1):=by unfold lex;rw[iN c1,iN c2,iN c3,iN c4,iN c5,iN c6,iN c7,iP c8]
  rw[hl]at he hk ⊢;simp only[]at he hk ⊢;have hk0:(begun s i).1≠0:=Z;obtain⟨e,g1,g2,g3,gm,g4,g5⟩:=zRm hk0;obtain rfl:e=i+n:=Z;have hbl:=zCl (s.extract i (i+n)) 0 (by show(begun (s.extract i (i+n)) 0).1≠0;rw[g4];exact hk0);have hz:=kE (s:=s) (i:=i) (e:=i+n) Z g3;have p0:=gZ (s:=s) (i:=i) (e:=i+n) (j:=0) Z g3;have hat:begunAt (s.extract i (i+n)) 0=((begun s i).1,((n:Nat):Int),(begun (s.extract i (i+n)) 0).2.2.1,0):=by
   have:=vE (s:=s.extract i (i+n)) (at':=0) Z Z (by rw[Int.toNat_zero,p0];exact gm);rw[Int.toNat_zero]at this;have e2:(begun (s.extract i (i+n)) 0).2.1=((n:Nat):Int):=by rw[g5];omega
   rw[<-this];exact Prod.ext g4 (Prod.ext e2 (Prod.ext rfl hbl))
  have:=zQv (u.extract 0 i') (s.extract i (i+n)) (u.extract (i'+n) u.size) _ n _ Z hat;have hxx:(u.extract 0 i').size=i':=by rw[ByteArray.size_extract];omega
  rw[<-H.2.2,cut3 u Z Z,hxx]at this;have hbu:begun u i'=begunAt u i':=by
   have:=vE (s:=u) (at':=i') Z Z (by rw[Int.toNat_natCast,b0];exact gm)
   rwa [Int.toNat_natCast]at this
  have hlow:bt s i<128:=by unfold isMark at gm;simp at gm;omega
  have hr:=hasc hlow;refine⟨?_,c1,hw1 hlow⟩;unfold lex;rw[hr,iN c1,iN c2,iN n3,iN n4,iN c5,iN n6,iN n7,hbu,this,iP Ob]
 .exfalso;have:(lex s i).1=8\/(lex s i).1=0:=by
   unfold lex;rw[iN c1,iN c2,iN c3,iN c4,iN c5,iN c6,iN c7,iN c8];split<;>simp
  omega
end
end Go.Proofs.YtfpjdpdmgceciaaGreatDoor
namespace Go.Proofs.YtfpjdpdmgceciaaGreatDoor
set_option maxRecDepth 100000
set_option maxHeartbeats 32000000
set_option linter.all false
attribute [local irreducible] wpStill
open Go.RowKit
theorem zDl{P:Program}{fn:Func}{p t1 t2 t3:Tmp}{ty:TypeId}(h:fn.results=#[.tmp t1,.tmp t2,.tmp t3,.cell p ty])(tmps:Array Value)(w:World)(g:Nat)(t:TypeId)(cs:Array Value)(fr:Nat×Nat)(d:TypeDesc)(hp:tmps.getD p undef=.pointer (some ⟨g,0,none⟩))(hg:w.heap[g]?=some (.cells cs t fr))(hu:P.underlying ty=some d)(hd:(match d with| .struct _| .array _ _=>true|_=>false)=true)(hi:(P.info? ty).map (·.size)=some cs.size) :
  (results fn tmps).run P w=.ok (.tuple #[tmps.getD t1 undef,tmps.getD t2 undef,tmps.getD t3 undef,.agg cs]) w:=by
 have hp':tmps[p]?.getD undef=.pointer (some ⟨g,0,none⟩):=by simpa using hp
 simp[results,h,hp',asAddr,run_loadVar_row w g t ty cs fr d hg hu hd hi]
theorem fB{P:Program}{fn:Func}{p t1 t2:Tmp}{ty:TypeId}(h:fn.results=#[.tmp t1,.tmp t2,.cell p ty])(tmps:Array Value)(w:World)(g:Nat)(t:TypeId)(cs:Array Value)(fr:Nat×Nat)(d:TypeDesc)(hp:tmps.getD p undef=.pointer (some ⟨g,0,none⟩))(hg:w.heap[g]?=some (.cells cs t fr))(hu:P.underlying ty=some d)(hd:(match d with| .struct _| .array _ _=>true|_=>false)=true)(hi:(P.info? ty).map (·.size)=some cs.size) :
  (results fn tmps).run P w=.ok (.tuple #[tmps.getD t1 undef,tmps.getD t2 undef,.agg cs]) w:=by
 have hp':tmps[p]?.getD undef=.pointer (some ⟨g,0,none⟩):=by simpa using hp
 simp[results,h,hp',asAddr,run_loadVar_row w g t ty cs fr d hg hu hd hi]
theorem yAb:(Tryz.prog.info? 3).map (λi=>(i.zero,i.size,i.bytes))=some (some (.int .i64 0),1,8):=Oa
theorem zWk(n:Nat)(hn:n<=1000000000)(w:World) :
  (Instr.makeSlice 31 (.int .i64 (n:Int)) (.int .i64 (n:Int))).run Tryz.prog w=.ok (.slice (some ⟨w.heap.size,0,none⟩) n n) (w.alloc (.cells ((List.replicate n (0:Int)).map (Value.int .i64)).toArray 3)):=by
 obtain⟨i,hi,hz,hsz,hb⟩:=info_parts yAb;have hr:=run_make (P:=Tryz.prog) w 31 3 i (.int .i64 0) Tryz.underlying31 hi hz .i64 .i64 (n:Int) (n:Int) Z (Int.le_refl _) (by rw[hb];omega) Z;rw[hsz]at hr;have e:madeCells (Value.int .i64 0).cells ((n:Int).toNat*1)=((List.replicate n (0:Int)).map (Value.int .i64)).toArray:=by
  apply Array.ext';rw[Int.toNat_natCast,Nat.mul_one];show(madeCells #[.int .i64 0] n).toList=_;rw[toList_madeCells_one,List.map_replicate]
 rw[e]at hr
 simpa using hr
theorem zFt{s:ByteArray}(h:(semiAll s).2.1=0):(semiAll s).2.2=0:=by
 by_cases hc:(scanAll s).2.1=0/\(scanAll s).2.2=0
 .unfold semiAll;rw[iP hc]
 .exfalso;have e:semiAll s=([],(scanAll s).2.1,(scanAll s).2.2):=by unfold semiAll;rw[iN hc]
  rw[e]at h;exact hc ⟨h,zGf s h⟩
theorem zMh(c:Nat)(hc:c<256)(w:World) :
  Calls Tryz.prog 53 #[.int .u8 (c:Int)] w λe w'=>e=.returned (.int .u8 (closer c:Nat))/\w=w':=by
 have HQ:Hid (∀x:Nat,closer c=x->(λ(e:Ending) w'=>e=.returned (.int .u8 (closer c:Nat))/\w=w') (.returned (.int .u8 (x:Int))) w):=Hd λx h=>⟨by rw[h],rfl⟩
 generalize(λ(e:Ending) w'=>e=.returned (.int .u8 (closer c:Nat))/\w=w')=Q at *;have h4:c=40\/c=91\/c=123\/(c≠40/\c≠91/\c≠123):=Z;rcases h4 with rfl|rfl|rfl|⟨n1,n2,n3⟩
 .go_enter Tryz.func53,Tryz.ntmps53;go_wp2_with fail;exact HQ.out 41 rfl
 .go_enter Tryz.func53,Tryz.ntmps53;go_wp2_with fail;exact HQ.out 93 rfl
 .go_enter Tryz.func53,Tryz.ntmps53;go_wp2_with fail;exact HQ.out 125 rfl
 .have m1:((c:Int)==40)=false:=by rw[bE];omega
  have m2:((c:Int)==91)=false:=by rw[bE];omega
  have m3:((c:Int)==123)=false:=by rw[bE];omega
  have HV:Hid (closer c=0):=Hd (by unfold closer;rw[iN n1,iN n2,iN n3]);clear n1 n2 n3;go_enter Tryz.func53,Tryz.ntmps53;go_wp2_with fail;exact HQ.out 0 HV.out
def OpenAt(O:Array Value):List Nat->Prop
 |[]=>True
 |o::r=>O[r.length]?=some (.int .i64 (o:Int))/\OpenAt O r
theorem OpenAt.set{O:Array Value}:∀{op:List Nat}(h:OpenAt O op)(j:Nat)(v:Value)(hj:op.length<=j),OpenAt (O.setIfInBounds j v) op
 |[],_,_,_,_=>trivial
 |o::r,h,j,v,hj=>by
  simp only[lC]at hj;refine⟨?_,OpenAt.set h.2 j v Z⟩;rw[Array.getElem?_setIfInBounds_ne Z];exact h.1
structure NW(W:World)(b g:Nat)(p:List Int)(op:List Nat):Prop where
 pair:W.heap[b]?=some (.cells (p.map (Value.int .i64)).toArray 3 (0,0))
 stack:∃O T,W.heap[g]?=some (.cells O T (0,0))/\O.size=100/\OpenAt O op
theorem NW.keep{W W':World}{b g:Nat}{p:List Int}{op:List Nat}(h:NW W b g p op)(hb:Below W.heap.size W W'):NW W' b g p op:=by
 obtain⟨h1,O,T,h2,h3⟩:=h;exact⟨keeps hb h1,O,T,keeps hb h2,h3⟩
theorem NW.set{W:World}{b g:Nat}{p:List Int}{op:List Nat}(h:NW W b g p op)(hne:g≠b)(i:Nat)(v:Int):NW (W.setCell ⟨b,i,none⟩ (.int .i64 v)) b g (p.set i v) op:=by
 obtain⟨h1,O,T,h2,h3⟩:=h;refine⟨?_,O,T,by rw[heap_setCell_other _ _ _ _ hne];exact h2,h3⟩;rw[heap_setCell_same _ _ _ _ _ _ h1,List.setIfInBounds_toArray,<-List.map_set]
theorem NW.push{W:World}{b g:Nat}{p:List Int}{op:List Nat}(h:NW W b g p op)(hne:b≠g)(hl:op.length<100)(i:Nat):NW (W.setCell ⟨g,op.length,none⟩ (.int .i64 (i:Int))) b g p (i::op):=by
 obtain⟨h1,O,T,h2,h3,h4⟩:=h;refine⟨by rw[heap_setCell_other _ _ _ _ hne];exact h1,O.setIfInBounds op.length (.int .i64 (i:Int)),T,heap_setCell_same _ _ _ _ _ _ h2,by rw[Array.size_setIfInBounds];exact h3,?_,h4.set _ _ (nR _)⟩;rw[Array.getElem?_setIfInBounds_self_of_lt Z]
theorem NW.tail{W:World}{b g o:Nat}{p:List Int}{op:List Nat}(h:NW W b g p (o::op)):NW W b g p op:=by
 obtain⟨h1,O,T,h2,h3,h4⟩:=h;exact⟨h1,O,T,h2,h3,h4.2⟩
theorem NW.top{W:World}{b g o:Nat}{p:List Int}{op:List Nat}(h:NW W b g p (o::op)):W.cell? ⟨g,op.length,none⟩=some (.int .i64 (o:Int)):=by
 obtain⟨h1,O,T,h2,h3,h4⟩:=h;simp[World.cell?,h2,h4.1]
theorem NW.lt{W:World}{b g:Nat}{p:List Int}{op:List Nat}(h:NW W b g p op):g<W.heap.size:=by
 obtain⟨h1,O,T,h2,h3⟩:=h;exact lt_of_block h2
theorem NW.fzg{W:World}{b g:Nat}{p:List Int}{op:List Nat}(h:NW W b g p op)(i:Nat):W.frozen? ⟨g,i,none⟩=false:=by
 obtain⟨h1,O,T,h2,h3⟩:=h;simp[World.frozen?,h2]
theorem NW.some_g{W:World}{b g:Nat}{p:List Int}{op:List Nat}(h:NW W b g p op){i:Nat}(hi:i<100):∃u,W.cell? ⟨g,i,none⟩=some u:=by
 obtain⟨h1,O,T,h2,h3⟩:=h;exact⟨O[i],by simp[World.cell?,h2]⟩
theorem NW.fzb{W:World}{b g:Nat}{p:List Int}{op:List Nat}(h:NW W b g p op)(i:Nat):W.frozen? ⟨b,i,none⟩=false:=by
 simp[World.frozen?,h.pair]
theorem NW.cell{W:World}{b g:Nat}{p:List Int}{op:List Nat}(h:NW W b g p op){i:Nat}(hi:i<p.length):W.cell? ⟨b,i,none⟩=some (.int .i64 p[i]):=by
 simp[World.cell?,h.pair,hi]
theorem NW.row{W:World}{b g:Nat}{p:List Int}{op:List Nat}(h:NW W b g p op):zK W (.slice (some ⟨b,0,none⟩) p.length p.length) .i64 p:=by
 refine⟨Ob,_,_,rfl,nR _,Ob,λhn=>⟨b,0,rfl,lt_of_block h.pair,λi hi=>?_⟩⟩;have hi':i<p.length:=Z;rw[Nat.zero_add,h.cell hi'];simp[hi']
def nwRel(s:ByteArray)(L:List Tok)(R:Except (Int×Int) (List Int×Nat))(W0:World)(b g:Nat)(n most i:Value)(wr:World):Prop :=
 ∃(k:Nat) (op:List Nat) (p:List Int) (m:Nat),i=.int .i64 (k:Int)/\n=.int .i64 (op.length:Int)/\most=.int .i64 (m:Int)/\k<=L.length/\op.length<=100/\m<=100/\p.length=L.length/\
  (∀o∈op,o<k/\closer (bch s (L.getD o (0,0,0)))≠0)/\nestGo s L (L.drop k) k op p m=R/\NW wr b g p op/\Below W0.heap.size W0 wr
@[irreducible] def walkPost(q:List Tok×List Int×Int×Int×Int)(w0:World)(e:Ending)(w':World):Prop :=
 ∃v1 v2,e=.returned (.tuple #[v1,v2,.int .i64 q.2.2.1,.agg #[.int .i64 q.2.2.2.1,.int .i64 q.2.2.2.2]])/\Below w0.heap.size w0 w'/\TokRow w' v1 q.1/\zK w' v2 .i64 q.2.1/\NewV w0.heap.size v1/\NewV w0.heap.size v2
theorem yHl{s:ByteArray}{t:Tok}(h:closer (bch s t)≠0):t.1=8/\t.2.2=t.2.1+1/\bch s t=bt s t.2.1:=by
 unfold bch at h ⊢;by_cases g:t.1=8/\t.2.2=t.2.1+1
 .exact⟨g.1,g.2,iP g⟩
 .rw[iN g]at h;exact absurd rfl h
theorem nest_walk(s:ByteArray)(hs:s.size<=2147483647)(w:World)(hT:Tabs w)(hM:MaxC w) :
  Calls Tryz.prog 32 #[.string s] w (walkPost (nestAll s) w):=by
 have HQ:Hid (∀w' v1 v2 l p m e a,nestAll s=(l,p,m,e,a)->Below w.heap.size w w'->TokRow w' v1 l->zK w' v2 .i64 p->NewV w.heap.size v1->NewV w.heap.size v2->walkPost (nestAll s) w (.returned (.tuple #[v1,v2,.int .i64 m,.agg #[.int .i64 e,.int .i64 a]])) w'):=Hd λw' v1 v2 l p m e a h h2 h3 h4 h5 h6=>by
  unfold walkPost;rw[h];exact⟨v1,v2,rfl,h2,h3,h4,h5,h6⟩
 have HV:Hid (nestAll s=_):=Hd (by unfold nestAll;rfl);have C1:=Hd (λw' (hb:Below w.heap.size w w')=>yGf s hs w' (hT.below hb) (hM.below hb));have CP:=Hd (λc hc w'=>zMh c hc w');have HER:=Hd (@zFt s);have HORD:=Hd (zGi s);have HLN:=zGh s;generalize walkPost (nestAll s) w=Q at *;have HF:Hid (∀(tm:Array Value) W' v1 v2 l p m e a,nestAll s=(l,p,m,e,a)->Below w.heap.size w W'->TokRow W' v1 l->zK W' v2 .i64 p->NewV w.heap.size v1->NewV w.heap.size v2->FK W' w.heap.size e a->tm.getD 5 undef=.pointer (some ⟨w.heap.size,0,none⟩)->tm.getD 2 undef=v1->tm.getD 3 undef=v2->tm.getD 4 undef=.int .i64 m->bodyPost Tryz.prog Tryz.f32 Q .ret ⟨tm,[]⟩ W') :=
  Hd λtm W' v1 v2 l p m e a h1 h2 h3 h4 n1 n2 h5 h6 h7 h8 h9=>by
   refine bodyPost_ret (zDl rfl tm W' w.heap.size 25 #[.int .i64 e,.int .i64 a] (0,0) _ h6 h5 Tryz.underlying25 rfl Oa) rfl ?_;rw[h7,h8,h9];exact HQ.out W' v1 v2 l p m e a h1 h2 h3 h4 n1 n2
 have hT4:FK (w.alloc (.cells #[.int .i64 0,.int .i64 0] 25)) w.heap.size 0 0:=by
  unfold FK;exact heap_alloc_new _ _
 have hbW:Below w.heap.size w (w.alloc (.cells #[.int .i64 0,.int .i64 0] 25)):=(bR _ _).alloc (nR _) _;have H4:=Hd hT4;have HBW:=Hd hbW;clear hT4 hbW;go_enter Tryz.func32,Tryz.ntmps32;go_wp2_with fail;refine(C1.out _ HBW.out).mono ?_;intro e w1 h1;unfold allPost at h1;generalize semiAll s=q at *;obtain⟨L,er,ea⟩:=q;simp only[]at *;obtain⟨v,rfl,hb1,ho1⟩:=h1;have HB1:=Hd (zD HBW.out hb1);have HF1:=Hd (H4.out.keep hb1);have HR1:=Hd (TokRow.of_owns ho1);have HNV:=Hd ((NewV.of_owns ho1).mono (show w.heap.size+1<=(w.alloc (.cells #[.int .i64 0,.int .i64 0] 25)).heap.size by simp));have HA1:=Hd (HB1.out.alloc HB1.out.size (.cells #[.int .i64 er,.int .i64 ea] 25));have HF2:=Hd (HF1.out.alloc (.cells #[.int .i64 er,.int .i64 ea] 25));have HX:Hid (FK (w1.alloc (.cells #[.int .i64 er,.int .i64 ea] 25)) w1.heap.size er ea):=Hd (by unfold FK;exact heap_alloc_new _ _);have HRW:=Hd (HR1.out.below ((bR _ _).alloc (nR _) (.cells #[.int .i64 er,.int .i64 ea] 25)));obtain⟨va,vcap,rfl,hvcap,_⟩:=HR1.out;clear hb1 ho1 H4 HBW C1;have x0:=HX.out.c0;have x1:=HX.out.c1;by_cases her:er=0
 .obtain rfl:=HER.out her;subst her;have hv:=HV.out;rw[iP ⟨rfl,rfl⟩]at hv;have hmk:=zWk L.length Z;have HV2:=Hd hv;clear hv HV;generalize hR:nestGo s L L 0 [] (List.replicate L.length 0) 0=R at *;have HR0:=Hd hR;go_wp2_with fail;have HN0:Hid (NW (((w1.alloc (.cells #[.int .i64 0,.int .i64 0] 25)).alloc (.cells (Array.replicate L.length (Value.int .i64 0)) 3)).alloc (.cells Tryz.zeroCells102 102)) (w1.heap.size+1) (w1.heap.size+1+1) (List.replicate L.length 0) []):=Hd (by
   refine⟨?_,Tryz.zeroCells102,102,?_,by decide +kernel,trivial⟩
   .rw[Below.heap_alloc _ _ _ Ob,List.map_replicate,List.toArray_replicate];have:=heap_alloc_new (w1.alloc (.cells #[.int .i64 0,.int .i64 0] 25)) (.cells (Array.replicate L.length (Value.int .i64 0)) 3)
    simpa using this
   .have:=heap_alloc_new ((w1.alloc (.cells #[.int .i64 0,.int .i64 0] 25)).alloc (.cells (Array.replicate L.length (Value.int .i64 0)) 3)) (.cells Tryz.zeroCells102 102)
    simpa using this)
  have hx1:Below w1.heap.size w1 (((w1.alloc (.cells #[.int .i64 0,.int .i64 0] 25)).alloc (.cells (Array.replicate L.length (Value.int .i64 0)) 3)).alloc (.cells Tryz.zeroCells102 102)):=(((bR _ _).alloc (nR _) _).alloc Ob _).alloc (by simp;omega) _;have HX1:=Hd hx1;have hlt1:w.heap.size<w1.heap.size:=lt_of_block (show w1.heap[w.heap.size]?=_ from HF1.out);clear hx1 HRW HF2 HA1 HX x0 x1;generalize(((w1.alloc (.cells #[.int .i64 0,.int .i64 0] 25)).alloc (.cells (Array.replicate L.length (Value.int .i64 0)) 3)).alloc (.cells Tryz.zeroCells102 102))=W0 at *;have HLT:=Hd hlt1;have HBE:Hid (w1.heap.size<w1.heap.size+1):=Hd (Nat.lt_succ_self _);clear hlt1;generalize w1.heap.size+1=b at *;go_loopw [10,11,29] (λn most i wr=>nwRel s L R w1 b (b+1) n most i wr) (λ_ _ i _=>L.length-(intOf i).toNat)
  case atStart =>
   exact⟨0,[],List.replicate L.length 0,0,rfl,rfl,rfl,Nat.zero_le _,Ob,Z,Ob,(λo ho=>by cases ho),by rw[List.drop_zero];exact HR0.out,HN0.out,HX1.out⟩
  case round =>
   obtain⟨k,op,p,m,rfl,rfl,rfl,hk,hol,hm,hp,hop,hgo,hnw,hb⟩:=hrel;have HB:=Hd hb;have HN:=Hd hnw;have HOP:=Hd hop;have HP:=Hd hp;have HOL:=Hd hol;have HM:=Hd hm;clear hb hnw hop hp HN0 HX1;by_cases hlt:k<L.length
   .have hlt':(k:Int)<L.length:=Z;obtain⟨b1,rfl,_,hcp,d0,d1,d2⟩:=HR1.out.at HB.out hlt;have hord:=zHs HORD.out L[k] (gM hlt);rw[List.drop_eq_getElem_cons hlt,kH]at hgo;have hgt:L.getD k (0,0,0)=L[k]:=by rw[gD,gE hlt];rfl
    generalize L[k]=t at *;obtain⟨kk,ff,tt⟩:=t;simp only[]at hord d0 d1 d2 hgo;have HGO:=Hd hgo;have HGT:=Hd hgt;clear hgo hgt;have hk0:(0:Int)<=k:=Z;have hkc:(k:Int)<vcap:=Z;have hkp:(k:Int)<p.length:=by have:=HP.out;omega
    have hwk:IntKind.i64.wrap ((k:Int)+1)=((k+1:Nat):Int):=wI Z;have HK1:Hid (k+1<=L.length):=Hd hlt;have HML:Hid (L.length-(k+1)<L.length-k):=Hd Z;have hA:Below wr.heap.size wr (wr.alloc (.cells #[.int .u8 kk,.int .i64 (ff:Int),.int .i64 (tt:Int)] 52)):=(bR _ _).alloc (nR _) _;have HN1:=Hd (HN.out.keep hA);have HTK0:=Hd (TK.alloc_new wr kk ff tt);have HBA:=Hd (zD HB.out hA);have b0:=HN1.out.cell (i:=k) (by have:=HP.out;omega);have zb:=HN1.out.fzb k;clear hA;go_upto_region 11 with(fail);clear b0 zb d0 d1 d2;have hblt:b+1<wr.heap.size:=HN.out.lt;have HN2:=Hd (HN1.out.set Z k (-1));have HTK2:Hid (TK ((wr.alloc (.cells #[.int .u8 kk,.int .i64 (ff:Int),.int .i64 (tt:Int)] 52)).setCell ⟨b,k,none⟩ (.int .i64 (-1))) wr.heap.size kk ff tt):=Hd (by
     unfold TK;rw[heap_setCell_other _ _ _ _ (by show wr.heap.size≠b;omega)];exact HTK0.out)
    have HB2:Hid (Below w1.heap.size w1 ((wr.alloc (.cells #[.int .u8 kk,.int .i64 (ff:Int),.int .i64 (tt:Int)] 52)).setCell ⟨b,k,none⟩ (.int .i64 (-1)))):=Hd (HBA.out.setCell (p:=⟨b,k,none⟩) (Nat.le_of_lt HBE.out) _);have HPL:Hid ((p.set k (-1)).length=L.length):=Hd (by rw[List.length_set];exact HP.out);generalize(wr.alloc (.cells #[.int .u8 kk,.int .i64 (ff:Int),.int .i64 (tt:Int)] 52)).setCell ⟨b,k,none⟩ (.int .i64 (-1))=W3 at *;generalize p.set k (-1)=p2 at *;have t0:=HTK2.out.c0;have t1:=HTK2.out.c1;have t2:=HTK2.out.c2
    -- the round of a token that is no bracket
    have HSK:Hid (nestGo s L (L.drop (k+1)) (k+1) op p2 m=R->∀W',NW W' b (b+1) p2 op->Below w1.heap.size w1 W'->nwRel s L R w1 b (b+1) (.int .i64 (op.length:Int)) (.int .i64 (m:Int)) (.int .i64 ((k+1:Nat):Int)) W') :=
     Hd λh W' h1 h2=>⟨k+1,op,p2,m,rfl,rfl,rfl,HK1.out,HOL.out,HM.out,HPL.out,(λo ho=>⟨by have:=(HOP.out o ho).1;omega,(HOP.out o ho).2⟩),h,h1,h2⟩
    by_cases h8:kk=8
    .subst h8;by_cases h1b:tt=ff+1
     .subst h1b;have hffi:(ff:Int)<s.size:=Z;have hff0:(0:Int)<=ff:=Z;have yc:=zL s ff Z;have hbc:bch s (8,ff,ff+1)=bt s ff:=by unfold bch;exact iP ⟨rfl,rfl⟩
      have hgo:=HGO.out;rw[hbc]at hgo;have h256:=yT s ff;have hop1:closer (bt s ff)≠0->Hid (∀o∈k::op,o<k+1/\closer (bch s (L.getD o (0,0,0)))≠0):=λh=>Hd λo ho=>by
       rcases List.mem_cons.1 ho with rfl|ho
       .rw[HGT.out,hbc];exact⟨Z,h⟩
       .exact⟨by have:=(HOP.out o ho).1;omega,(HOP.out o ho).2⟩
      clear HGO hbc;generalize bt s ff=c at *;have hwd:IntKind.i64.wrap ((ff:Int)+1-(ff:Int))=1:=wI Z;go_wp2_with fail;refine(CP.out c h256 _).mono ?_;rintro e w4 ⟨rfl,rfl⟩;by_cases hcl:closer c≠0
      .rw[iP hcl]at hgo;have HO1:=hop1 hcl;have hcl0:((closer c:Int)==0)=false:=by rw[bE];omega
       clear hop1;by_cases hfull:op.length=100
       .rw[iP hfull]at hgo;have HV3:Hid (nestAll s=([],[],0,6,(ff:Int))):=Hd (by rw[HV2.out,<-hgo]);have HF3:=Hd (HF1.out.keep HB2.out);have z50:=HF3.out.fz 0;have z51:=HF3.out.fz 1;have c50:=HF3.out.c0;have c51:=HF3.out.c1;have hfi:((op.length:Int)==100)=true:=by rw[beq_iff_eq];omega
        have HB3:=Hd (zD HB1.out HB2.out);clear hgo hcl hfull HSK;go_wp2_with fail;go_region;all_goals
         go_wp2_with fail;exact HF.out _ _ _ _ [] [] 0 6 ff HV3.out ((yG HB3.out (nR _) _ _).drew) (TokRow.none _) (zK.none _ _) (NewV.none _) (NewV.none _) (HF3.out.fill _ _) rfl rfl rfl rfl
       .rw[iN hfull]at hgo;have hfi:((op.length:Int)==100)=false:=by rw[bE];omega
        have hfl:(op.length:Int)<100:=by have:=HOL.out;omega
        have hf0:(0:Int)<=(op.length:Int):=Z;have zg:=HN2.out.fzg op.length;obtain⟨u,cg⟩:=HN2.out.some_g (i:=op.length) Z;have HN3:=Hd (HN2.out.push Z Z k);have HB3:=Hd (HB2.out.setCell (p:=⟨b+1,op.length,none⟩) (by show w1.heap.size<=b+1;have:=HBE.out;omega) (.int .i64 (k:Int)));have hwn:IntKind.i64.wrap ((op.length:Int)+1)=((op.length:Int)+1):=wI Z;have HR:Hid (∀i' m' W',i'=.int .i64 ((op.length:Int)+1)->m'=.int .i64 ((max m (op.length+1):Nat):Int)->W'=W3.setCell ⟨b+1,op.length,none⟩ (.int .i64 (k:Int))->nwRel s L R w1 b (b+1) i' m' (.int .i64 ((k+1:Nat):Int)) W'):=Hd (by
         rintro _ _ _ rfl rfl rfl;exact⟨k+1,k::op,p2,max m (op.length+1),rfl,rfl,rfl,HK1.out,by simp only[lC];omega,by have:=HM.out;omega,HPL.out,HO1.out,hgo,HN3.out,HB3.out⟩)
        clear hgo hcl hfull HSK;go_wp2_with fail;refine⟨?_,(by have:=HML.out;simp[intOf];try omega)⟩;exact HR.out _ _ _ rfl (congrArg (Value.int .i64) Z) rfl
      .rw[iN hcl]at hgo;have hcl1:closer c=0:=Z;have hcl0:((closer c:Int)==0)=true:=by rw[beq_iff_eq];omega
       rw[hcl1]at hcl0 ⊢;clear hop1 hcl;have hcs:(c=41\/c=93\/c=125)\/(c≠41/\c≠93/\c≠125):=Z;rcases hcs with hcs|⟨n1,n2,n3⟩
       rotate_left
       .have hic:isClose c=false:=by unfold isClose;simp[n1,n2,n3]
        rw[iN (by simp[hic])]at hgo;have HSK2:=Hd (HSK.out hgo W3 HN2.out HB2.out);have m1:((c:Int)==41)=false:=by rw[bE];omega
        have m2:((c:Int)==93)=false:=by rw[bE];omega
        have m3:((c:Int)==125)=false:=by rw[bE];omega
        clear hgo HSK n1 n2 n3 hic;go_wp2_with fail;refine⟨?_,(by have:=HML.out;simp[intOf];try omega)⟩;first
         |exact HSK2.out
         | (repeat apply Exists.intro
            refine⟨?_,rfl⟩;exact HSK2.out)
       .have hic:isClose c=true:=by rcases hcs with rfl|rfl|rfl<;>decide
        rw[iP hic]at hgo;clear hic HSK hcl1;have HCC:=Hd hcs;cases op with
        |nil =>
         simp only[]at hgo;have HV3:Hid (nestAll s=([],[],0,5,(ff:Int))):=Hd (by rw[HV2.out,<-hgo]);have HF3:=Hd (HF1.out.keep HB2.out);have z50:=HF3.out.fz 0;have z51:=HF3.out.fz 1;have c50:=HF3.out.c0;have c51:=HF3.out.c1;have HB3:=Hd (zD HB1.out HB2.out);clear hgo;rcases hcs with rfl|rfl|rfl;all_goals
          go_wp2_with fail;go_region;all_goals
           go_wp2_with fail;exact HF.out _ _ _ _ [] [] 0 5 ff HV3.out ((yG HB3.out (nR _) _ _).drew) (TokRow.none _) (zK.none _ _) (NewV.none _) (NewV.none _) (HF3.out.fill _ _) rfl rfl rfl rfl
        |cons o op =>
         simp only[]at hgo;have ho:=HOP.out o List.mem_cons_self;obtain⟨b1',hb1',_,_,e0,e1,e2⟩:=HR1.out.at HB2.out (show o<L.length by omega);simp only[Option.some.injEq,Addr.mk.injEq,and_true]at hb1';subst hb1';have hgo2:L.getD o (0,0,0)=L[o]:=by rw[gD,gE Z];rfl
         have hbo:=yHl ho.2;have hoo:=zHs HORD.out L[o] (gM Z);rw[hgo2]at hbo hgo;generalize L[o]=t2 at *;obtain⟨ko,fo,eo⟩:=t2;simp only[]at hbo hoo e0 e1 e2 hgo;obtain⟨rfl,rfl,hbo⟩:=hbo;rw[hbo]at hgo;have yo:=zL s fo Z;have h256o:=yT s fo;have hfoi:(fo:Int)<s.size:=Z;have hfo0:(0:Int)<=fo:=Z;have hol0:(0:Int)<=(op.length:Int):=Z;have holl:(op.length:Int)<100:=by have:=HOL.out;simp only[lC]at this;omega
         have hw1:IntKind.i64.wrap ((op.length:Int)+1-1)=(op.length:Int):=wI Z;have hne0:((op.length:Int)+1==0)=false:=by rw[bE];omega
         have hoi0:(0:Int)<=(o:Int):=Z;have hoic:(o:Int)<vcap:=Z;have hoil:(o:Int)<L.length:=Z;have tg:=HN2.out.top;have HOK:Hid (o<k):=Hd ho.1;have hlop:(((o::op).length:Nat):Int)=(op.length:Int)+1:=Ob;clear hbo hgo2 e0 e2 ho;generalize bt s fo=c2 at *;rcases hcs with rfl|rfl|rfl
         .go_wp2_with fail;refine(CP.out c2 h256o _).mono ?_;rintro e w4 ⟨rfl,rfl⟩;by_cases hmt:closer c2=41
          .rw[iP hmt]at hgo;rw[hmt];have k0:=HN2.out.cell (i:=k) (by rw[HPL.out];omega);have k1:=HN2.out.cell (i:=o) (by rw[HPL.out];omega);have z1:=HN2.out.fzb k;have z2:=HN2.out.fzb o;have hs1:=HN2.out.set Z k (o:Int);have k2:=hs1.cell (i:=o) (by rw[List.length_set,HPL.out];omega);have z3:=hs1.fzb o;clear hs1;generalize(p2.set k (o:Int))[o]'_=v2 at k2;have HN3:=Hd ((HN2.out.tail.set Z k (o:Int)).set Z o (k:Int));have HB3:=Hd ((HB2.out.setCell (p:=⟨b,k,none⟩) (Nat.le_of_lt HBE.out) (.int .i64 (o:Int))).setCell (p:=⟨b,o,none⟩) (Nat.le_of_lt HBE.out) (.int .i64 (k:Int)));have HR:Hid (∀W',W'=((W3.setCell ⟨b,k,none⟩ (.int .i64 (o:Int))).setCell ⟨b,o,none⟩ (.int .i64 (k:Int))).drew->nwRel s L R w1 b (b+1) (.int .i64 (op.length:Int)) (.int .i64 (m:Int)) (.int .i64 ((k+1:Nat):Int)) W'):=Hd (by
            rintro _ rfl;exact⟨k+1,op,(p2.set k (o:Int)).set o (k:Int),m,rfl,rfl,rfl,HK1.out,by have:=HOL.out;simp only[lC]at this;omega,HM.out,by rw[List.length_set,List.length_set];exact HPL.out,(λx hx=>⟨by have:=(HOP.out x (List.mem_cons_of_mem _ hx)).1;omega,(HOP.out x (List.mem_cons_of_mem _ hx)).2⟩),hgo,HN3.out.keep (bR _ _).drew,HB3.out.drew⟩)
           clear hgo hmt;go_wp2_with fail;go_region;all_goals
            go_wp2_with fail;refine⟨?_,(by have:=HML.out;simp[intOf];try omega)⟩;exact HR.out _ rfl
          .rw[iN hmt]at hgo;have HV3:Hid (nestAll s=([],[],0,5,(ff:Int))):=Hd (by rw[HV2.out,<-hgo]);have HF3:=Hd (HF1.out.keep HB2.out);have z50:=HF3.out.fz 0;have z51:=HF3.out.fz 1;have c50:=HF3.out.c0;have c51:=HF3.out.c1;have HB3:=Hd (zD HB1.out HB2.out);have hmtb:((closer c2:Int)==41)=false:=by rw[bE];omega
           clear hgo hmt;go_wp2_with fail;go_region;all_goals
            go_wp2_with fail;exact HF.out _ _ _ _ [] [] 0 5 ff HV3.out ((yG HB3.out (nR _) _ _).drew) (TokRow.none _) (zK.none _ _) (NewV.none _) (NewV.none _) (HF3.out.fill _ _) rfl rfl rfl rfl
         .go_wp2_with fail;refine(CP.out c2 h256o _).mono ?_;rintro e w4 ⟨rfl,rfl⟩;by_cases hmt:closer c2=93
          .rw[iP hmt]at hgo;rw[hmt];have k0:=HN2.out.cell (i:=k) (by rw[HPL.out];omega);have k1:=HN2.out.cell (i:=o) (by rw[HPL.out];omega);have z1:=HN2.out.fzb k;have z2:=HN2.out.fzb o;have hs1:=HN2.out.set Z k (o:Int);have k2:=hs1.cell (i:=o) (by rw[List.length_set,HPL.out];omega);have z3:=hs1.fzb o;clear hs1;generalize(p2.set k (o:Int))[o]'_=v2 at k2;have HN3:=Hd ((HN2.out.tail.set Z k (o:Int)).set Z o (k:Int));have HB3:=Hd ((HB2.out.setCell (p:=⟨b,k,none⟩) (Nat.le_of_lt HBE.out) (.int .i64 (o:Int))).setCell (p:=⟨b,o,none⟩) (Nat.le_of_lt HBE.out) (.int .i64 (k:Int)));have HR:Hid (∀W',W'=((W3.setCell ⟨b,k,none⟩ (.int .i64 (o:Int))).setCell ⟨b,o,none⟩ (.int .i64 (k:Int))).drew->nwRel s L R w1 b (b+1) (.int .i64 (op.length:Int)) (.int .i64 (m:Int)) (.int .i64 ((k+1:Nat):Int)) W'):=Hd (by
            rintro _ rfl;exact⟨k+1,op,(p2.set k (o:Int)).set o (k:Int),m,rfl,rfl,rfl,HK1.out,by have:=HOL.out;simp only[lC]at this;omega,HM.out,by rw[List.length_set,List.length_set];exact HPL.out,(λx hx=>⟨by have:=(HOP.out x (List.mem_cons_of_mem _ hx)).1;omega,(HOP.out x (List.mem_cons_of_mem _ hx)).2⟩),hgo,HN3.out.keep (bR _ _).drew,HB3.out.drew⟩)
           clear hgo hmt;go_wp2_with fail;go_region;all_goals
            go_wp2_with fail;refine⟨?_,(by have:=HML.out;simp[intOf];try omega)⟩;exact HR.out _ rfl
          .rw[iN hmt]at hgo;have HV3:Hid (nestAll s=([],[],0,5,(ff:Int))):=Hd (by rw[HV2.out,<-hgo]);have HF3:=Hd (HF1.out.keep HB2.out);have z50:=HF3.out.fz 0;have z51:=HF3.out.fz 1;have c50:=HF3.out.c0;have c51:=HF3.out.c1;have HB3:=Hd (zD HB1.out HB2.out);have hmtb:((closer c2:Int)==93)=false:=by rw[bE];omega
           clear hgo hmt;go_wp2_with fail;go_region;all_goals
            go_wp2_with fail;exact HF.out _ _ _ _ [] [] 0 5 ff HV3.out ((yG HB3.out (nR _) _ _).drew) (TokRow.none _) (zK.none _ _) (NewV.none _) (NewV.none _) (HF3.out.fill _ _) rfl rfl rfl rfl
         .go_wp2_with fail;refine(CP.out c2 h256o _).mono ?_;rintro e w4 ⟨rfl,rfl⟩;by_cases hmt:closer c2=125
          .rw[iP hmt]at hgo;rw[hmt];have k0:=HN2.out.cell (i:=k) (by rw[HPL.out];omega);have k1:=HN2.out.cell (i:=o) (by rw[HPL.out];omega);have z1:=HN2.out.fzb k;have z2:=HN2.out.fzb o;have hs1:=HN2.out.set Z k (o:Int);have k2:=hs1.cell (i:=o) (by rw[List.length_set,HPL.out];omega);have z3:=hs1.fzb o;clear hs1;generalize(p2.set k (o:Int))[o]'_=v2 at k2;have HN3:=Hd ((HN2.out.tail.set Z k (o:Int)).set Z o (k:Int));have HB3:=Hd ((HB2.out.setCell (p:=⟨b,k,none⟩) (Nat.le_of_lt HBE.out) (.int .i64 (o:Int))).setCell (p:=⟨b,o,none⟩) (Nat.le_of_lt HBE.out) (.int .i64 (k:Int)));have HR:Hid (∀W',W'=((W3.setCell ⟨b,k,none⟩ (.int .i64 (o:Int))).setCell ⟨b,o,none⟩ (.int .i64 (k:Int))).drew->nwRel s L R w1 b (b+1) (.int .i64 (op.length:Int)) (.int .i64 (m:Int)) (.int .i64 ((k+1:Nat):Int)) W'):=Hd (by
            rintro _ rfl;exact⟨k+1,op,(p2.set k (o:Int)).set o (k:Int),m,rfl,rfl,rfl,HK1.out,by have:=HOL.out;simp only[lC]at this;omega,HM.out,by rw[List.length_set,List.length_set];exact HPL.out,(λx hx=>⟨by have:=(HOP.out x (List.mem_cons_of_mem _ hx)).1;omega,(HOP.out x (List.mem_cons_of_mem _ hx)).2⟩),hgo,HN3.out.keep (bR _ _).drew,HB3.out.drew⟩)
           clear hgo hmt;go_wp2_with fail;go_region;all_goals
            go_wp2_with fail;refine⟨?_,(by have:=HML.out;simp[intOf];try omega)⟩;exact HR.out _ rfl
          .rw[iN hmt]at hgo;have HV3:Hid (nestAll s=([],[],0,5,(ff:Int))):=Hd (by rw[HV2.out,<-hgo]);have HF3:=Hd (HF1.out.keep HB2.out);have z50:=HF3.out.fz 0;have z51:=HF3.out.fz 1;have c50:=HF3.out.c0;have c51:=HF3.out.c1;have HB3:=Hd (zD HB1.out HB2.out);have hmtb:((closer c2:Int)==125)=false:=by rw[bE];omega
           clear hgo hmt;go_wp2_with fail;go_region;all_goals
            go_wp2_with fail;exact HF.out _ _ _ _ [] [] 0 5 ff HV3.out ((yG HB3.out (nR _) _ _).drew) (TokRow.none _) (zK.none _ _) (NewV.none _) (NewV.none _) (HF3.out.fill _ _) rfl rfl rfl rfl
     .have h0:bch s (8,ff,tt)=0:=by unfold bch;rw[iN (λg=>h1b g.2)]
      have hgo:=HGO.out;rw[h0,iN V,iN V]at hgo;have HSK2:=Hd (HSK.out hgo W3 HN2.out HB2.out);have hwd:IntKind.i64.wrap ((tt:Int)-(ff:Int))=(tt:Int)-(ff:Int):=wI Z;have hne1:((tt:Int)-(ff:Int)==1)=false:=by rw[bE];omega
      clear hgo h0 h1b HGO HSK HN1 HTK0;go_wp2_with fail;refine⟨?_,(by have:=HML.out;simp[intOf];try omega)⟩;first
       |exact HSK2.out
       | (repeat apply Exists.intro
          refine⟨?_,rfl⟩;exact HSK2.out)
    .have h0:bch s (kk,ff,tt)=0:=by unfold bch;rw[iN (λg=>h8 g.1)]
     have hgo:=HGO.out;rw[h0,iN V,iN V]at hgo;have HSK2:=Hd (HSK.out hgo W3 HN2.out HB2.out);have hne8:(kk==8)=false:=by rw[bE];exact h8
     clear hgo h0 h8 HGO HSK HN1 HTK0;go_wp2_with fail;refine⟨?_,(by have:=HML.out;simp[intOf];try omega)⟩;first
      |exact HSK2.out
      | (repeat apply Exists.intro
         refine⟨?_,rfl⟩;exact HSK2.out)
   .have hlt':¬(k:Int)<L.length:=Z;rw[List.drop_of_length_le Z]at hgo;cases op with
    |nil =>
     rw[nestGo]at hgo;have HV3:Hid (nestAll s=(L,p,(m:Int),0,0)):=Hd (by rw[HV2.out,<-hgo]);have HF3:=Hd (HF1.out.keep HB.out);have z50:=HF3.out.fz 0;have z51:=HF3.out.fz 1;have c50:=HF3.out.c0;have c51:=HF3.out.c1;have HB3:=Hd (zD HB1.out HB.out);have HNA:=Hd (HR1.out.below HB.out);have HRP:=HN.out.row;rw[HP.out]at HRP;have HRP:=Hd HRP;have HN1':Hid (NewV (w.heap.size+1) (.slice va L.length vcap)):=HNV;have HN2':Hid (NewV (w.heap.size+1) (.slice (some ⟨b,0,none⟩) L.length L.length)):=Hd (λx e=>by
      simp[Value.ownBlock]at e;have:=HLT.out;have:=HBE.out;omega)
     clear hgo;go_wp2_with fail;exact HF.out _ _ _ _ L p m 0 0 HV3.out (yG HB3.out (nR _) _ _) ((HNA.out.setCell (HN1'.out.ne Ob) _).setCell (HN1'.out.ne Ob) _) ((HRP.out.setCell (HN2'.out.ne Ob) _).setCell (HN2'.out.ne Ob) _) (HN1'.out.mono Z) (HN2'.out.mono Z) (HF3.out.fill _ _) rfl rfl rfl rfl
    |cons o op =>
     rw[nestGo]at hgo;have ho:=HOP.out o List.mem_cons_self;obtain⟨b1,rfl,_,hcp,e0,e1,e2⟩:=HR1.out.at HB.out (show o<L.length by omega);have hgo2:L.getD o (0,0,0)=L[o]:=by rw[gD,gE Z];rfl
     rw[hgo2]at hgo;generalize L[o]=t2 at *;obtain⟨ko,fo,eo⟩:=t2;simp only[]at e0 e1 e2 hgo;have HV3:Hid (nestAll s=([],[],0,5,(fo:Int))):=Hd (by rw[HV2.out,<-hgo]);have HF3:=Hd (HF1.out.keep HB.out);have z50:=HF3.out.fz 0;have z51:=HF3.out.fz 1;have c50:=HF3.out.c0;have c51:=HF3.out.c1;have HB3:=Hd (zD HB1.out HB.out);have hol0:(0:Int)<=(op.length:Int):=Z;have holl:(op.length:Int)<100:=by have:=HOL.out;simp only[lC]at this;omega
     have hw1:IntKind.i64.wrap ((op.length:Int)+1-1)=(op.length:Int):=wI Z;have hgt0:(0:Int)<(op.length:Int)+1:=Z;have hoi0:(0:Int)<=(o:Int):=Z;have hoic:(o:Int)<vcap:=Z;have hoil:(o:Int)<L.length:=Z;have tg:=HN.out.top;clear hgo hgo2 ho;go_wp2_with fail;go_region;all_goals
      go_wp2_with fail;exact HF.out _ _ _ _ [] [] 0 5 fo HV3.out ((yG HB3.out (nR _) _ _).drew) (TokRow.none _) (zK.none _ _) (NewV.none _) (NewV.none _) (HF3.out.fill _ _) rfl rfl rfl rfl
 .have hv:=HV.out;rw[iN (λh=>her h.1)]at hv;have HV2:=Hd hv;have hern:(er != 0)=true:=by simpa using her
  have herb:(er==0)=false:=by rw[bE];exact her
  clear hv HV;have z50:=HF2.out.fz 0;have z51:=HF2.out.fz 1;have c50:=HF2.out.c0;have c51:=HF2.out.c1;go_wp2_with fail;generalize w1.alloc (.cells #[.int .i64 er,.int .i64 ea] 25)=W0 at *;go_region;all_goals
   go_wp2_with fail;exact HF.out _ _ _ _ [] [] 0 er ea HV2.out ((yG HA1.out (nR _) _ _).drew) (TokRow.none _) (zK.none _ _) (NewV.none _) (NewV.none _) (HF2.out.fill _ _) rfl rfl rfl rfl
end Go.Proofs.YtfpjdpdmgceciaaGreatDoor
namespace Go.Proofs.YtfpjdpdmgceciaaGreatDoor
set_option maxRecDepth 100000
set_option maxHeartbeats 32000000
set_option linter.all false
open Go.RowKit
@[irreducible] def nofPost(q:List Tok×List Int×Int×Int×Int)(w0:World)(e:Ending)(w':World):Prop :=
 ∃v1 v2,e=.returned (.tuple #[v1,v2,.agg #[.int .i64 q.2.2.2.1,.int .i64 q.2.2.2.2]])/\Below w0.heap.size w0 w'/\TokRow w' v1 q.1/\zK w' v2 .i64 q.2.1/\NewV w0.heap.size v1/\NewV w0.heap.size v2
theorem yEn(s:ByteArray)(hs:s.size<=2147483647)(w:World)(hT:Tabs w)(hM:MaxC w) :
  Calls Tryz.prog 24 #[.string s] w (nofPost (nestAll s) w):=by
 have HQ:Hid (∀w' v1 v2 l p m e a,nestAll s=(l,p,m,e,a)->Below w.heap.size w w'->TokRow w' v1 l->zK w' v2 .i64 p->NewV w.heap.size v1->NewV w.heap.size v2->nofPost (nestAll s) w (.returned (.tuple #[v1,v2,.agg #[.int .i64 e,.int .i64 a]])) w'):=Hd λw' v1 v2 l p m e a h h2 h3 h4 h5 h6=>by
  unfold nofPost;rw[h];exact⟨v1,v2,rfl,h2,h3,h4,h5,h6⟩
 have C1:=Hd (λw' (hb:Below w.heap.size w w')=>nest_walk s hs w' (hT.below hb) (hM.below hb));generalize nofPost (nestAll s) w=Q at *;have HF:Hid (∀(tm:Array Value) W' v1 v2 l p m e a,nestAll s=(l,p,m,e,a)->Below w.heap.size w W'->TokRow W' v1 l->zK W' v2 .i64 p->NewV w.heap.size v1->NewV w.heap.size v2->FK W' w.heap.size e a->tm.getD 4 undef=.pointer (some ⟨w.heap.size,0,none⟩)->tm.getD 2 undef=v1->tm.getD 3 undef=v2->bodyPost Tryz.prog Tryz.f24 Q .ret ⟨tm,[]⟩ W') :=
  Hd λtm W' v1 v2 l p m e a h1 h2 h3 h4 n1 n2 h5 h6 h7 h8=>by
   refine bodyPost_ret (fB rfl tm W' w.heap.size 25 #[.int .i64 e,.int .i64 a] (0,0) _ h6 h5 Tryz.underlying25 rfl Oa) rfl ?_;rw[h7,h8];exact HQ.out W' v1 v2 l p m e a h1 h2 h3 h4 n1 n2
 have hT4:FK (w.alloc (.cells #[.int .i64 0,.int .i64 0] 25)) w.heap.size 0 0:=by
  unfold FK;exact heap_alloc_new _ _
 have hbW:Below w.heap.size w (w.alloc (.cells #[.int .i64 0,.int .i64 0] 25)):=(bR _ _).alloc (nR _) _;have H4:=Hd hT4;have HBW:=Hd hbW;clear hT4 hbW;go_enter Tryz.func24,Tryz.ntmps24;go_wp2_with fail;refine(C1.out _ HBW.out).mono ?_;intro e w1 h1;unfold walkPost at h1;have HE:=Hd (rfl:nestAll s=nestAll s);generalize hq:nestAll s=q at h1;obtain⟨L,P,m,er,ea⟩:=q;simp only[]at h1;obtain⟨v1,v2,rfl,hb1,hr1,hp1,hn1,hn2⟩:=h1;have HQQ:=Hd hq;have hA:Below w1.heap.size w1 (w1.alloc (.cells #[.int .i64 er,.int .i64 ea] 25)):=(bR _ _).alloc (nR _) _;have HA1:=Hd (zD (zD HBW.out hb1) hA);have HF2:=Hd ((H4.out.keep hb1).alloc (.cells #[.int .i64 er,.int .i64 ea] 25));have HX:Hid (FK (w1.alloc (.cells #[.int .i64 er,.int .i64 ea] 25)) w1.heap.size er ea):=Hd (by unfold FK;exact heap_alloc_new _ _);have HR1:=Hd (hr1.below hA);have HP1:=Hd (hp1.below hA);have HN1:=Hd (hn1.mono (show w.heap.size+1<=(w.alloc (.cells #[.int .i64 0,.int .i64 0] 25)).heap.size by simp));have HN2:=Hd (hn2.mono (show w.heap.size+1<=(w.alloc (.cells #[.int .i64 0,.int .i64 0] 25)).heap.size by simp));obtain⟨va,vcap,rfl,_,_⟩:=hr1;obtain⟨pa,pcap,rfl,_,_⟩:=hp1.open';clear hb1 hq hp1 hA C1 H4 HBW hn1 hn2;have x0:=HX.out.c0;have x1:=HX.out.c1;have z50:=HF2.out.fz 0;have z51:=HF2.out.fz 1;have c50:=HF2.out.c0;have c51:=HF2.out.c1;go_wp2_with fail;generalize w1.alloc (.cells #[.int .i64 er,.int .i64 ea] 25)=W0 at *;go_region;all_goals
  go_wp2_with fail;exact HF.out _ _ _ _ L P m er ea HQQ.out ((yG HA1.out (nR _) _ _).drew) (((HR1.out.setCell (HN1.out.ne Ob) _).setCell (HN1.out.ne Ob) _).below (bR _ _).drew) (((HP1.out.setCell (HN2.out.ne Ob) _).setCell (HN2.out.ne Ob) _).below (bR _ _).drew) (HN1.out.mono Z) (HN2.out.mono Z) (HF2.out.fill _ _) rfl rfl rfl
attribute [local irreducible] Calls
end Go.Proofs.YtfpjdpdmgceciaaGreatDoor
namespace Go.Proofs.YtfpjdpdmgceciaaGreatDoor
set_option linter.all false
theorem zDm(s:ByteArray):∀(l:List Tok)(en:Option Nat),(∀t∈l,0<=t.1/\t.1<256)->∀t∈semiRec s en l,0<=t.1/\t.1<256
 |[],en,_,t,ht=>by
  rw[semiRec]at ht;cases en<;>simp[flushL]at ht
  subst ht;exact⟨Ob,Ob⟩
 |a::r,en,h,t,ht=>by
  have hr:=λen=>zDm s r en (λt ht=>h t (.tail _ ht))
  rw[semiRec]at ht;split at ht
  .split at ht
   .rcases List.mem_append.1 ht with ht|ht
    .cases en<;>simp[flushL]at ht
     subst ht;exact⟨Ob,Ob⟩
    .exact hr _ t ht
   .exact hr _ t ht
  .rcases List.mem_cons.1 ht with rfl|ht
   .exact h _ (.head _)
   .exact hr _ t ht
theorem fC(s:ByteArray)(toks:List Tok):∀(r:List Tok)(i:Nat)(op:List Nat)(p:List Int)(m:Nat)(q:Int×Int),nestGo s toks r i op p m=.error q->q.1=5\/q.1=6
 |[],i,[],p,m,q,h=>by rw[nestGo]at h;cases h
 |[],i,o::_,p,m,q,h=>by rw[nestGo]at h;cases h;exact Or.inl rfl
 |t::r,i,op,p,m,q,h=>by
  rw[kH]at h;split at h
  .split at h
   .cases h;exact Or.inr rfl
   .exact fC s toks r _ _ _ _ q h
  .split at h
   .split at h
    .cases h;exact Or.inl rfl
    .split at h
     .exact fC s toks r _ _ _ _ q h
     .cases h;exact Or.inl rfl
   .exact fC s toks r _ _ _ _ q h
theorem zJz{s:ByteArray}(h:65536<s.size):scanAll s=([],2,0):=by
 unfold scanAll;rw[iP h]
theorem zKu{sz:Nat}:∀{l:List Tok}{a:Nat},inOrd sz a l->∀t∈l,t.2.1<=t.2.2/\t.2.2<=sz
 |[],_,_,t,ht=>by cases ht
 |x::r,a,h,t,ht=>by
  obtain⟨_,h1,h2,h3⟩:=h;rcases List.mem_cons.1 ht with rfl|ht
  .exact⟨h1,h2⟩
  .exact zKu h3 t ht
theorem zWl{s:ByteArray}{l:List Tok}{p:List Int}{m e a:Int}(h:nestAll s=(l,p,m,e,a)):(e≠0)\/(e=0/\a=0/\s.size<=65536/\l.length<=65537/\p.length=l.length/\(∀q∈p,-100000000<=q/\q<=100000000)/\∀t∈l,(0<=t.1/\t.1<256)/\t.2.1<=t.2.2/\t.2.2<=s.size):=by
 by_cases he:e=0
 .refine Or.inr ?_;have hl:=zGh s;unfold nestAll at h;split at h
  .rename_i hs;cases hr:nestGo s (semiAll s).1 (semiAll s).1 0 [] (List.replicate (semiAll s).1.length 0) 0 with
   |ok q =>
    rw[hr]at h;have hi:=zAh s (semiAll s).1 (semiAll s).1 0 [] _ 0 q Z (NInv.start _) hr;obtain⟨q1,q2⟩:=q;simp only[Prod.mk.injEq]at h;obtain⟨rfl,rfl,-,-,rfl⟩:=h;have hc:(scanAll s).2.1=0/\(scanAll s).2.2=0:=by
     by_cases hc:(scanAll s).2.1=0/\(scanAll s).2.2=0
     .exact hc
     .have e':semiAll s=([],(scanAll s).2.1,(scanAll s).2.2):=by unfold semiAll;rw[iN hc]
      rw[e']at hs;exact hs
    refine⟨he,rfl,?_,hl,hi.len,λx hx=>?_,λt ht=>⟨?_,zKu (zGi s) t ht⟩⟩
    .by_cases hb:s.size<=65536
     .exact hb
     .rw[zJz Z]at hc;exact absurd hc.1 V
    .obtain⟨k,hk,rfl⟩:=List.mem_iff_getElem.1 hx;have h1:=hi.pair k (by rw[<-hi.len];exact hk);have hg:q1.getD k 0=q1[k]:=by simp[gD,gE hk]
     rw[hg]at h1;rcases h1 with h1|⟨j,hj,h1,-⟩
     .omega
     .omega
    .rw[fI s hc]at ht;exact zDm s _ _ (zEh s) t ht
   |error q =>
    rw[hr]at h;simp only[Prod.mk.injEq]at h;obtain⟨-,-,-,h4,-⟩:=h;have:q.1=5\/q.1=6:=fC _ _ _ _ _ _ _ _ hr;omega
  .rename_i hs;simp only[Prod.mk.injEq]at h;obtain⟨-,-,-,h4,h5⟩:=h;exact absurd ⟨h4.trans he,zFt (h4.trans he)⟩ hs
 .exact Or.inl he
end Go.Proofs.YtfpjdpdmgceciaaGreatDoor
