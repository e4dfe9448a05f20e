/- Layer 1 in plain Lean, further: forms are read as they are; texts one behind the other; characters and texts, there and back. -/
import Derived.Test.YtfpjdpdmgceciaaGreatDoorU8Tg
import Derived.Laws.Concat
namespace Go.Proofs.YtfpjdpdmgceciaaGreatDoor
theorem size_data(s:ByteArray):s.size=s.data.toList.length:=(Array.length_toList (xs:=s.data)).symm
theorem get!_list(s:ByteArray)(i:Nat):s.get! i=s.data.toList.getD i 0:=by
 by_cases h:i<s.size
 .rw[get!_lt s i h];have h2:i<s.data.toList.length:=by rw[<-size_data];exact h
  rw[List.getD_eq_getElem?_getD,List.getElem?_eq_getElem h2];rfl
 .rw[get!_ge s i (by omega),List.getD_eq_getElem?_getD,List.getElem?_eq_none (by rw[<-size_data];omega)];rfl
theorem data_append(s t:ByteArray):(s++t).data.toList=s.data.toList++t.data.toList:=by
 simp[ByteArray.data_append]
theorem get!_left(s t:ByteArray)(i:Nat)(h:i<s.size):(s++t).get! i=s.get! i:=by
 rw[get!_list,get!_list,data_append,List.getD_eq_getElem?_getD,List.getD_eq_getElem?_getD,List.getElem?_append_left (by rw[<-size_data];exact h)]
theorem get!_right(s t:ByteArray)(i:Nat):(s++t).get! (s.size+i)=t.get! i:=by
 rw[get!_list,get!_list,data_append,List.getD_eq_getElem?_getD,List.getD_eq_getElem?_getD,List.getElem?_append_right (by rw[<-size_data];omega),<-size_data]
 congr 2;omega
theorem zYs(r:Int):(form r).data.toList=(formZ r).map λx=>UInt8.ofNat x.toNat:=by unfold form;exact strOfNums_data _
theorem zCp(r:Int):(form r).size=(formZ r).length:=by unfold form;exact strOfNums_size _
theorem vZ(r:Int)(k:Nat)(x:Int)(h:(formZ r)[k]?=some x)(h0:0<=x)(h1:x<256):(bt (form r) k:Int)=x:=by
 unfold bt;rw[get!_list,zYs,List.getD_eq_getElem?_getD,List.getElem?_map,h];simp only[Option.map_some,Option.getD_some];rw[xU _ (by omega)];omega
theorem zLu(t:ByteArray)(i:Nat)(r:Int)(hm:may r=true)(hsz:i+(form r).size<=t.size)(hb:∀k,k<(form r).size->t.get! (i+k)=(form r).get! k) :
  rd t i=(r.toNat,(form r).size):=by
 have hr:=(yZ r).1 hm;have hbt:∀k,k<(form r).size->bt t (i+k)=bt (form r) k:=λk hk=>by unfold bt;rw[hb k hk]
 have hv:∀n,n=(form r).size->1<=n->n<=4->refV t i n=r.toNat->rd t i=(r.toNat,(form r).size):=by
  intro n hn h1 h4 hv;have ht:refTry t i n=true:=by
   unfold refTry;rw[hv,Int.toNat_of_nonneg hr.1,beq_iff_eq,ByteArray.toList_eq,ByteArray.toList_eq];apply List.ext_getElem?;intro k;by_cases hk:k<n
   .have e1:(form r).data.toList[k]?=some ((form r).get! k):=by
     have hk2:k<(form r).data.toList.length:=by rw[<-size_data];omega
     rw[get!_list,List.getD_eq_getElem?_getD,List.getElem?_eq_getElem hk2];rfl
    have hsz2:(t.extract i (i+n)).size=n:=by simp;omega
    have e2:(t.extract i (i+n)).data.toList[k]?=some ((t.extract i (i+n)).get! k):=by
     have hk2:k<(t.extract i (i+n)).data.toList.length:=by rw[<-size_data];omega
     rw[get!_list,List.getD_eq_getElem?_getD,List.getElem?_eq_getElem hk2];rfl
    rw[e1,e2,get!_extract t i (i+n) k (by omega) (by omega),hb k (by omega)]
   .have hsz2:(t.extract i (i+n)).size=n:=by simp;omega
    rw[List.getElem?_eq_none (by rw[<-size_data];omega),List.getElem?_eq_none (by rw[<-size_data];omega)]
  rw[zBt t i n h1 h4 (by omega) ht,hv,hn]
 have b0:=hbt 0;have b1:=hbt 1;have b2:=hbt 2;have b3:=hbt 3;rw[Nat.add_zero]at b0;have hs:=zCp r;by_cases h1:r<128
 .have hz:formZ r=[r]:=by unfold formZ;rw[if_neg (by simp[hm]),if_pos h1]
  rw[hz]at hs;refine hv 1 hs.symm (by omega) (by omega) ?_;have f0:=vZ r 0 r (by rw[hz];rfl) (by omega) (by omega);simp only[List.length_cons,List.length_nil]at hs;have:=b0 (by omega);rw[zDh];omega
 .by_cases h2:r<2048
  .have hz:formZ r=[192+r / 64,128+r % 64]:=by unfold formZ;rw[if_neg (by simp[hm]),if_neg h1,if_pos h2]
   rw[hz]at hs;refine hv 2 hs.symm (by omega) (by omega) ?_;have f0:=vZ r 0 (192+r / 64) (by rw[hz];rfl) (by omega) (by omega);have f1:=vZ r 1 (128+r % 64) (by rw[hz];rfl) (by omega) (by omega);simp only[List.length_cons,List.length_nil]at hs;have:=b0 (by omega);have:=b1 (by omega);rw[zDi];omega
  .by_cases h3:r<65536
   .have hz:formZ r=[224+r / 4096,128+r / 64 % 64,128+r % 64]:=by unfold formZ;rw[if_neg (by simp[hm]),if_neg h1,if_neg h2,if_pos h3]
    rw[hz]at hs;refine hv 3 hs.symm (by omega) (by omega) ?_;have f0:=vZ r 0 (224+r / 4096) (by rw[hz];rfl) (by omega) (by omega);have f1:=vZ r 1 (128+r / 64 % 64) (by rw[hz];rfl) (by omega) (by omega);have f2:=vZ r 2 (128+r % 64) (by rw[hz];rfl) (by omega) (by omega);simp only[List.length_cons,List.length_nil]at hs;have:=b0 (by omega);have:=b1 (by omega);have:=b2 (by omega);rw[zFi];omega
   .have hz:formZ r=[240+r / 262144,128+r / 4096 % 64,128+r / 64 % 64,128+r % 64]:=by unfold formZ;rw[if_neg (by simp[hm]),if_neg h1,if_neg h2,if_neg h3]
    rw[hz]at hs;refine hv 4 hs.symm (by omega) (by omega) ?_;have f0:=vZ r 0 (240+r / 262144) (by rw[hz];rfl) (by omega) (by omega);have f1:=vZ r 1 (128+r / 4096 % 64) (by rw[hz];rfl) (by omega) (by omega);have f2:=vZ r 2 (128+r / 64 % 64) (by rw[hz];rfl) (by omega) (by omega);have f3:=vZ r 3 (128+r % 64) (by rw[hz];rfl) (by omega) (by omega);simp only[List.length_cons,List.length_nil]at hs;have:=b0 (by omega);have:=b1 (by omega);have:=b2 (by omega);have:=b3 (by omega);rw[zFj];omega
theorem yEe{r:Int}(hm:may r=true):1<=(form r).size:=by
 rw[zCp];unfold formZ;rw[if_neg (by simp[hm])]
 repeat' split
 all_goals simp
theorem zVr(s t:ByteArray)(i:Nat)(hi:i<s.size)(h:(rd s i).2≠0):rd (s++t) i=rd s i:=by
 rcases vP s i hi with⟨h1,_⟩|⟨h1,h2,h3,h4,h5,h6⟩
 .exact absurd (by rw[h1]) h
 .have hs:(form (rd s i).1).size=(rd s i).2:=by rw[h5];simp;omega
  rw[zLu (s++t) i (rd s i).1 h4 (by rw[hs,ByteArray.size_append];omega) ?_,hs]
  .simp
  .intro k hk;rw[get!_left s t (i+k) (by omega),h5,get!_extract s i _ k (by omega) h3]
theorem xC(s t:ByteArray)(i:Nat):bt (s++t) (s.size+i)=bt t i:=by unfold bt;rw[get!_right]
theorem zEo(s t:ByteArray)(i:Nat):rd (s++t) (s.size+i)=rd t i:=by
 have hd:Utf8.decode (s++t) (s.size+i)=Utf8.decode t i:=by
  rw[zCo,zCo,ByteArray.size_append];simp only[Nat.add_assoc,xC];rw[show s.size+t.size-(s.size+i)=t.size-i by omega]
 unfold rd;rw[hd,ByteArray.size_append];by_cases h:i<t.size
 .rw[if_pos (by omega:s.size+i<s.size+t.size),if_pos h]
 .rw[if_neg (by omega:¬s.size+i<s.size+t.size),if_neg h]
theorem jP(s:ByteArray)(i j k:Nat)(h1:i<=j)(h2:j<=k):s.extract i j++s.extract j k=s.extract i k:=by
 rw[ByteArray.extract_append_extract]
 congr 1<;>omega
def zF:List (Nat×Nat):=[(0x41,0x5A),(0x5F,0x5F),(0x61,0x7A),(0xAA,0xAA),(0xB5,0xB5),(0xBA,0xBA),(0xC0,0xD6),(0xD8,0xF6),(0xF8,0x2C1),(0x370,0x373),(0x376,0x377),(0x37B,0x37D),(0x386,0x386),(0x388,0x38A),(0x38C,0x38C),(0x38E,0x3A1),(0x3A3,0x3F5),(0x400,0x481),(0x48A,0x52F),(0x531,0x556),(0x561,0x587),(0x5D0,0x5EA),(0x620,0x64A),(0x904,0x939),(0xE01,0xE30),(0x10A0,0x10C5),(0x1E00,0x1F15),(0x3041,0x3096),(0x30A1,0x30FA),(0x4E00,0x9FFF),(0xAC00,0xD7A3),(0x10400,0x1044F),(0x20000,0x2A6DF)]
def xP:List (Nat×Nat):=[(0x30,0x39),(0x660,0x669),(0x966,0x96F),(0xE50,0xE59),(0xFF10,0xFF19)]
def inR(l:List (Nat×Nat))(r:Int):Bool:=l.any λp=>decide ((p.1:Int)<=r)&&decide (r<=(p.2:Int))
@[irreducible] def letter(r:Int):Bool:=inR zF r
@[irreducible] def digit(r:Int):Bool:=inR xP r
def frm(l:List (Nat×Nat))(i:Nat):Nat:=(l.getD i (0,0)).1
def too(l:List (Nat×Nat))(i:Nat):Nat:=(l.getD i (0,0)).2
theorem zZe(l:List (Nat×Nat))(r:Int)(i:Nat)(hi:i<l.length)(h1:(frm l i:Int)<=r)(h2:r<=(too l i:Int)):inR l r=true:=by
 unfold inR;rw[List.any_eq_true];refine⟨l[i],List.getElem_mem hi,?_⟩;unfold frm at h1;unfold too at h2;rw[List.getD_eq_getElem?_getD,List.getElem?_eq_getElem hi]at h1 h2;simp at h1 h2 ⊢;exact⟨h1,h2⟩
theorem zOn(l:List (Nat×Nat))(r:Int)(h:∀i,i<l.length->r<(frm l i:Int)\/(too l i:Int)<r):inR l r=false:=by
 unfold inR;rw[List.any_eq_false];intro p hp;obtain⟨i,hi,rfl⟩:=List.getElem_of_mem hp;have:=h i hi;unfold frm too at this;rw[List.getD_eq_getElem?_getD,List.getElem?_eq_getElem hi]at this;simp at this ⊢;omega
theorem zHl:∀i,i<33->∀j,j<33->i<=j->frm zF i<=frm zF j/\too zF i<=too zF j:=by decide +kernel
theorem zJy:∀i,i<33->frm zF i<=too zF i/\too zF i<1114112:=by decide +kernel
def words:List (List UInt8):=[[98,114,101,97,107],[99,97,115,101],[99,104,97,110],[99,111,110,115,116],[99,111,110,116,105,110,117,101],[100,101,102,97,117,108,116],[100,101,102,101,114],[101,108,115,101],[102,97,108,108,116,104,114,111,117,103,104],[102,111,114],[102,117,110,99],[103,111],[103,111,116,111],[105,102],[105,109,112,111,114,116],[105,110,116,101,114,102,97,99,101],[109,97,112],[112,97,99,107,97,103,101],[114,97,110,103,101],[114,101,116,117,114,110],[115,101,108,101,99,116],[115,116,114,117,99,116],[115,119,105,116,99,104],[116,121,112,101],[118,97,114]]
def word(s:ByteArray):Bool:=words.any λw=>s.toList==w
def blank(r:Int):Bool:=r==32 || r==9 || r==10 || r==13
def base(r:Int):Int:=if 48<=r/\r<=57 then r-48 else if 97<=r/\r<=102 then r-97+10 else if 65<=r/\r<=70 then r-65+10 else -1
def chk:Bool->List Int->Bool
 |_,[]=>true
 |first,x::l=>(letter x || (!first&&digit x))&&chk false l
@[irreducible] def name(s:ByteArray):Bool:=!s.toList.isEmpty&&!word s&&decide (bad s<0)&&chk true ((chars s).map λ(n:Nat)=>(n:Int))
set_option linter.all false
def dval(c:Nat):Nat:=if 48<=c/\c<=57 then c-48 else if 97<=c/\c<=102 then c-87 else if 65<=c/\c<=70 then c-55 else 99
theorem zSh:dval 95=99:=by decide
def rowL(b:Nat):List Nat->Nat
 |[]=>0
 |c::t =>
  if dval c<b then
   match t with
   |u::d::r=>if u=95/\dval d<b then 2+rowL b (d::r)else 1+rowL b (u::d::r)
   |[x]=>1+rowL b [x]
   |[]=>1
  else 0
termination_by l=>l.length
theorem zHz(b:Nat):rowL b []=0:=by rw[rowL]
theorem zPc{b c:Nat}{t:List Nat}(h:¬dval c<b):rowL b (c::t)=0:=by rw[rowL.eq_def];simp only[if_neg h]
theorem zIa{b c d:Nat}{r:List Nat}(h:dval c<b)(hd:dval d<b):rowL b (c::95::d::r)=2+rowL b (d::r):=by
 rw[rowL.eq_def];simp only[if_pos h];rw[if_pos ⟨trivial,hd⟩]
theorem zKx{b c:Nat}{t:List Nat}(h:dval c<b)(hn:¬(t.head?=some 95/\∃d,t[1]?=some d/\dval d<b)):rowL b (c::t)=1+rowL b t:=by
 rw[rowL.eq_def];simp only[if_pos h];match t,hn with
 |[],_=>rw[zHz]
 |[x],_=>rfl
 |u::d::r,hn =>
  simp only[];rw[if_neg];rintro⟨rfl,hd⟩;exact hn ⟨rfl,d,rfl,hd⟩
theorem jC(b:Nat):∀l:List Nat,rowL b l<=l.length
 |[]=>by rw[zHz];exact Nat.le_refl _
 |c::t=>by
  by_cases h:dval c<b
  .by_cases hn:t.head?=some 95/\∃d,t[1]?=some d/\dval d<b
   .match t,hn with
    |[],hn=>simp at hn
    |[x],hn=>simp at hn
    |u::d::r,⟨h1,d',h2,h3⟩ =>
     simp at h1 h2;subst h1;subst h2;rw[zIa h h3];have:=jC b (d::r);simp only[List.length_cons]at this ⊢;omega
   .rw[zKx h hn];have:=jC b t;simp only[List.length_cons];omega
  .rw[zPc h];omega
termination_by l=>l.length
inductive RowP (b:Nat):List Nat->Prop
 |one {c:Nat}:dval c<b->RowP b [c]
 |next {c:Nat} {t:List Nat}:dval c<b->RowP b t->RowP b (c::t)
 |under {c:Nat} {t:List Nat}:dval c<b->RowP b t->RowP b (c::95::t)
def rowOK(b:Nat)(l:List Nat):Bool:=!l.isEmpty&&rowL b l==l.length
def bare(l:List Nat):List Nat:=if l.head?=some 95 then l.drop 1 else l
def wholeL(b:Nat)(l:List Nat):Nat:=if rowOK b (bare l)then 3 else 0
def signed(l:List Nat):Nat:=if l[1]?=some 43\/l[1]?=some 45 then 2 else 1
def powL(c1 c2:Nat)(l:List Nat):Nat :=
 if l.head?=some c1\/l.head?=some c2 then
  if 0<rowL 10 (l.drop (signed l))then signed l+rowL 10 (l.drop (signed l))else 0
 else 0
def tailK(b:Nat)(m:List Nat):Nat:=if m[rowL b m]?=some 46 then rowL b (m.drop (rowL b m+1))+1 else 0
def noDigit(b:Nat)(m:List Nat):Bool:=decide (tailK b m≠0/\rowL b m+(tailK b m-1)=0)
def zJ(l:List Nat):Nat :=
 if rowOK 16 (bare l)then 3
 else if rowL 16 (bare l)=0/\l.head?=some 95 then 0
 else if noDigit 16 (bare l)then 0
 else if tailK 16 (bare l)=0/\rowL 16 (bare l)=0 then 0
 else if 0<powL 112 80 ((bare l).drop (rowL 16 (bare l)+tailK 16 (bare l)))/\rowL 16 (bare l)+tailK 16 (bare l)+powL 112 80 ((bare l).drop (rowL 16 (bare l)+tailK 16 (bare l)))=(bare l).length then 4 else 0
def tenL(l:List Nat):Nat :=
 if rowL 10 l=l.length/\0<rowL 10 l then(if l.head?≠some 48\/rowL 10 l=1 then 3 else wholeL 8 (l.drop 1))
 else if noDigit 10 l then 0
 else if 0<rowL 10 l+tailK 10 l/\0<tailK 10 l+powL 101 69 (l.drop (rowL 10 l+tailK 10 l))/\rowL 10 l+tailK 10 l+powL 101 69 (l.drop (rowL 10 l+tailK 10 l))=l.length then 4 else 0
def realL(l:List Nat):Nat :=
 if 1<l.length/\l.head?=some 48 then
  if l[1]?=some 98\/l[1]?=some 66 then wholeL 2 (l.drop 2)
  else if l[1]?=some 111\/l[1]?=some 79 then wholeL 8 (l.drop 2)
  else if l[1]?=some 120\/l[1]?=some 88 then zJ (l.drop 2)
  else tenL l
 else tenL l
def kindL(l:List Nat):Nat :=
 if realL l≠0 then realL l
 else if l.getLast?≠some 105 then 0
 else if realL l.dropLast≠0\/(l.dropLast≠[]/\rowL 10 l.dropLast=l.dropLast.length)then 5 else 0
theorem zWr{b:Nat}{l:List Nat}:rowOK b l=true↔l≠[]/\rowL b l=l.length:=by unfold rowOK;simp
theorem zPd(b:Nat)(m:List Nat):rowL b m+tailK b m<=m.length:=by
 have h1:=jC b m;unfold tailK;split
 .rename_i h;have h2:=jC b (m.drop (rowL b m+1));have h3:=(List.getElem?_eq_some_iff.1 h).1;rw[List.length_drop]at h2;omega
 .omega
theorem fD(c1 c2:Nat)(l:List Nat):powL c1 c2 l<=l.length:=by
 unfold powL;split
 .rename_i h;split
  .have h2:=jC 10 (l.drop (signed l));rw[List.length_drop]at h2;have h3:signed l<=l.length:=by
    unfold signed;split
    .rename_i h4;rcases h4 with h4|h4<;>(have:=(List.getElem?_eq_some_iff.1 h4).1;omega)
    .cases l with
     |nil=>simp at h
     |cons c t=>simp
   omega
  .omega
 .omega
end Go.Proofs.YtfpjdpdmgceciaaGreatDoor
