/- Layer 1 in plain Lean, further: forms are read as they are; texts one behind the other; characters and texts, there and back. -/
import Derived.Test.YtbjkdmbcpkopjaaGreatDoorU8Mt
import Derived.Laws.Concat
import Derived.Test.YtbjkdmbcpkopjaaGreatDoorCoreMt
import Derived.Laws.Tables
import Derived.Deep.Cut
import Derived.Deep.WholeRow
namespace Go.Proofs.YtbjkdmbcpkopjaaGreatDoor

theorem zQ (s:ByteArray):s.size=s.data.toList.length:=(Array.length_toList (xs:=s.data)).symm
theorem get!_list (s:ByteArray) (i:Nat):s.get! i=s.data.toList.getD i 0:=by
 by_cases h:i<s.size
 ·rw [get!_lt s i h];have h2:i<s.data.toList.length:=by rw [← zQ];exact h
  rw [gD,gE h2];rfl
 ·rw [get!_ge s i (by omega),gD,List.getElem?_eq_none (by rw [← zQ];omega)];rfl
theorem data_append (s t:ByteArray):(s++t).data.toList=s.data.toList++t.data.toList:=by
 simp [ByteArray.data_append]
theorem get!_left (s t:ByteArray) (i:Nat) (h:i<s.size):(s++t).get! i=s.get! i:=by
 rw [get!_list,get!_list,data_append,gD,gD,List.getElem?_append_left (by rw [← zQ];exact h)]
theorem get!_right (s t:ByteArray) (i:Nat):(s++t).get! (s.size+i)=t.get! i:=by
 rw [get!_list,get!_list,data_append,gD,gD,List.getElem?_append_right (by rw [← zQ];omega),← zQ]
 congr 2;omega
theorem zWr (r:Int):(form r).data.toList=(formZ r).map fun x=>UInt8.ofNat x.toNat:=by unfold form;exact strOfNums_data _
theorem zDx (r:Int):(form r).size=(formZ r).length:=by unfold form;exact strOfNums_size _
theorem kK (r:Int) (k:Nat) (x:Int) (h:(formZ r)[k]?=some x) (h0:0≤x) (h1:x<256):(bt (form r) k:Int)=x:=by
 unfold bt;rw [get!_list,zWr,gD,List.getElem?_map,h];simp only [Option.map_some,Option.getD_some];rw [xU _ (by omega)];omega

theorem zKn (t:ByteArray) (i:Nat) (r:Int) (hm:may r=true) (hsz:i+(form r).size≤t.size) (hb:∀ k,k<(form r).size→t.get! (i+k)=(form r).get! k) :
  rd t i=(r.toNat,(form r).size):=by
 have hr:=(xL r).1 hm;have hbt:∀ k,k<(form r).size→bt t (i+k)=bt (form r) k:=fun k hk=>by unfold bt;rw [hb k hk]
 have hv:∀ n,n=(form r).size→1≤n→n≤4→refV t i n=r.toNat→rd t i=(r.toNat,(form r).size):=by
  intro n hn h1 h4 hv;have ht:refTry t i n=true:=by
   unfold refTry;rw [hv,Int.toNat_of_nonneg hr.1,beq_iff_eq,ByteArray.toList_eq,ByteArray.toList_eq];apply List.ext_getElem?;intro k;by_cases hk:k<n
   ·have e1:(form r).data.toList[k]?=some ((form r).get! k):=by
     have hk2:k<(form r).data.toList.length:=by rw [← zQ];omega
     rw [get!_list,gD,gE hk2];rfl
    have hsz2:(t.extract i (i+n)).size=n:=by simp;omega
    have e2:(t.extract i (i+n)).data.toList[k]?=some ((t.extract i (i+n)).get! k):=by
     have hk2:k<(t.extract i (i+n)).data.toList.length:=by rw [← zQ];omega
     rw [get!_list,gD,gE hk2];rfl
    rw [e1,e2,get!_extract t i (i+n) k (by omega) (by omega),hb k (by omega)]
   ·have hsz2:(t.extract i (i+n)).size=n:=by simp;omega
    rw [List.getElem?_eq_none (by rw [← zQ];omega),List.getElem?_eq_none (by rw [← zQ];omega)]
  rw [zMg t i n h1 h4 (by omega) ht,hv,hn]
 have b0:=hbt 0;have b1:=hbt 1;have b2:=hbt 2;have b3:=hbt 3;rw [Nat.add_zero] at b0;have hs:=zDx r;by_cases h1:r<128
 ·have hz:formZ r=[r]:=by unfold formZ;rw [iN (by simp [hm]),iP h1]
  rw [hz] at hs;refine hv 1 hs.symm (by omega) (by omega) ?_;have f0:=kK r 0 r (by rw [hz];rfl) (by omega) (by omega);simp only [lC,lN] at hs;have:=b0 (by omega);rw [zDv];omega
 ·by_cases h2:r<2048
  ·have hz:formZ r=[192+r / 64,128+r % 64]:=by unfold formZ;rw [iN (by simp [hm]),iN h1,iP h2]
   rw [hz] at hs;refine hv 2 hs.symm (by omega) (by omega) ?_;have f0:=kK r 0 (192+r / 64) (by rw [hz];rfl) (by omega) (by omega);have f1:=kK r 1 (128+r % 64) (by rw [hz];rfl) (by omega) (by omega);simp only [lC,lN] at hs;have:=b0 (by omega);have:=b1 (by omega);rw [zDw];omega
  ·by_cases h3:r<65536
   ·have hz:formZ r=[224+r / 4096,128+r / 64 % 64,128+r % 64]:=by unfold formZ;rw [iN (by simp [hm]),iN h1,iN h2,iP h3]
    rw [hz] at hs;refine hv 3 hs.symm (by omega) (by omega) ?_;have f0:=kK r 0 (224+r / 4096) (by rw [hz];rfl) (by omega) (by omega);have f1:=kK r 1 (128+r / 64 % 64) (by rw [hz];rfl) (by omega) (by omega);have f2:=kK r 2 (128+r % 64) (by rw [hz];rfl) (by omega) (by omega);simp only [lC,lN] at hs;have:=b0 (by omega);have:=b1 (by omega);have:=b2 (by omega);rw [zIj];omega
   ·have hz:formZ r=[240+r / 262144,128+r / 4096 % 64,128+r / 64 % 64,128+r % 64]:=by unfold formZ;rw [iN (by simp [hm]),iN h1,iN h2,iN h3]
    rw [hz] at hs;refine hv 4 hs.symm (by omega) (by omega) ?_;have f0:=kK r 0 (240+r / 262144) (by rw [hz];rfl) (by omega) (by omega);have f1:=kK r 1 (128+r / 4096 % 64) (by rw [hz];rfl) (by omega) (by omega);have f2:=kK r 2 (128+r / 64 % 64) (by rw [hz];rfl) (by omega) (by omega);have f3:=kK r 3 (128+r % 64) (by rw [hz];rfl) (by omega) (by omega);simp only [lC,lN] at hs;have:=b0 (by omega);have:=b1 (by omega);have:=b2 (by omega);have:=b3 (by omega);rw [zIk];omega
theorem yAq {r:Int} (hm:may r=true):1≤(form r).size:=by
 rw [zDx];unfold formZ;rw [iN (by simp [hm])]
 repeat' split
 all_goals simp

theorem yCd (s t:ByteArray) (i:Nat) (hi:i<s.size) (h:(rd s i).2≠0):rd (s++t) i=rd s i:=by
 rcases kJ s i hi with ⟨h1,_⟩ | ⟨h1,h2,h3,h4,h5,h6⟩
 ·exact absurd (by rw [h1]) h
 ·have hs:(form (rd s i).1).size=(rd s i).2:=by rw [h5];simp;omega
  rw [zKn (s++t) i (rd s i).1 h4 (by rw [hs,ByteArray.size_append];omega) ?_,hs]
  ·simp
  ·intro k hk;rw [get!_left s t (i+k) (by omega),h5,get!_extract s i _ k (by omega) h3]
theorem xD (s t:ByteArray) (i:Nat):bt (s++t) (s.size+i)=bt t i:=by unfold bt;rw [get!_right]
theorem zPs (s t:ByteArray) (i:Nat):rd (s++t) (s.size+i)=rd t i:=by
 have hd:Utf8.decode (s++t) (s.size+i)=Utf8.decode t i:=by
  rw [zBj,zBj,ByteArray.size_append];simp only [Nat.add_assoc,xD];rw [show s.size+t.size-(s.size+i)=t.size-i by omega]
 unfold rd;rw [hd,ByteArray.size_append];by_cases h:i<t.size
 ·rw [iP (by omega:s.size+i<s.size+t.size),iP h]
 ·rw [iN (by omega:¬ s.size+i<s.size+t.size),iN h]
theorem zAu (s:ByteArray) (i j k:Nat) (h1:i≤j) (h2:j≤k):s.extract i j++s.extract j k=s.extract i k:=by
 rw [ByteArray.extract_append_extract]
 congr 1 <;> omega
def zK:List (Nat×Nat):=[(0x41,0x5A),(0x5F,0x5F),(0x61,0x7A),(0xAA,0xAA),(0xB5,0xB5),(0xBA,0xBA),(0xC0,0xD6),(0xD8,0xF6),(0xF8,0x2C1),(0x370,0x373),(0x376,0x377),(0x37B,0x37D),(0x386,0x386),(0x388,0x38A),(0x38C,0x38C),(0x38E,0x3A1),(0x3A3,0x3F5),(0x400,0x481),(0x48A,0x52F),(0x531,0x556),(0x561,0x587),(0x5D0,0x5EA),(0x620,0x64A),(0x904,0x939),(0xE01,0xE30),(0x10A0,0x10C5),(0x1E00,0x1F15),(0x3041,0x3096),(0x30A1,0x30FA),(0x4E00,0x9FFF),(0xAC00,0xD7A3),(0x10400,0x1044F),(0x20000,0x2A6DF)]
def zFc:List (Nat×Nat):=[(0x30,0x39),(0x660,0x669),(0x966,0x96F),(0xE50,0xE59),(0xFF10,0xFF19)]
def inR (l:List (Nat×Nat)) (r:Int):Bool:=l.any fun p=>decide ((p.1:Int)≤r)&&decide (r≤(p.2:Int))
@[irreducible] def letter (r:Int):Bool:=inR zK r
@[irreducible] def digit (r:Int):Bool:=inR zFc r
def frm (l:List (Nat×Nat)) (i:Nat):Nat:=(l.getD i (0,0)).1
def too (l:List (Nat×Nat)) (i:Nat):Nat:=(l.getD i (0,0)).2
theorem yCm (l:List (Nat×Nat)) (r:Int) (i:Nat) (hi:i<l.length) (h1:(frm l i:Int)≤r) (h2:r≤(too l i:Int)):inR l r=true:=by
 unfold inR;rw [List.any_eq_true];refine ⟨l[i],gM hi,?_⟩;unfold frm at h1;unfold too at h2;rw [gD,gE hi] at h1 h2;simp at h1 h2 ⊢;exact ⟨h1,h2⟩
theorem zXc (l:List (Nat×Nat)) (r:Int) (h:∀ i,i<l.length→r<(frm l i:Int)∨(too l i:Int)<r):inR l r=false:=by
 unfold inR;rw [List.any_eq_false];intro p hp;obtain ⟨i,hi,rfl⟩:=List.getElem_of_mem hp;have:=h i hi;unfold frm too at this;rw [gD,gE hi] at this;simp at this ⊢;omega
theorem zFu:∀ i,i<33→∀ j,j<33→i≤j→frm zK i≤frm zK j∧too zK i≤too zK j:=by decide +kernel
theorem zIo:∀ i,i<33→frm zK i≤too zK i∧too zK i<1114112:=by decide +kernel
def words:List (List UInt8):=[[98,114,101,97,107],[99,97,115,101],[99,104,97,110],[99,111,110,115,116],[99,111,110,116,105,110,117,101],[100,101,102,97,117,108,116],[100,101,102,101,114],[101,108,115,101],[102,97,108,108,116,104,114,111,117,103,104],[102,111,114],[102,117,110,99],[103,111],[103,111,116,111],[105,102],[105,109,112,111,114,116],[105,110,116,101,114,102,97,99,101],[109,97,112],[112,97,99,107,97,103,101],[114,97,110,103,101],[114,101,116,117,114,110],[115,101,108,101,99,116],[115,116,114,117,99,116],[115,119,105,116,99,104],[116,121,112,101],[118,97,114]]
def word (s:ByteArray):Bool:=words.any fun w=>s.toList == w
def blank (r:Int):Bool:=r == 32 || r == 9 || r == 10 || r == 13
def base (r:Int):Int:=if 48≤r∧r≤57 then r-48 else if 97≤r∧r≤102 then r-97+10 else if 65≤r∧r≤70 then r-65+10 else -1
def chk:Bool→List Int→Bool
 | _,[]=>true
 | first,x::l=>(letter x || (!first&&digit x))&&chk false l
@[irreducible] def name (s:ByteArray):Bool:=!s.toList.isEmpty&&!word s&&decide (bad s<0)&&chk true ((chars s).map fun (n:Nat)=>(n:Int))
set_option linter.all false
def dval (c:Nat):Nat:=if 48≤c∧c≤57 then c-48 else if 97≤c∧c≤102 then c-87 else if 65≤c∧c≤70 then c-55 else 99
def rowL (b:Nat):List Nat→Nat
 | []=>0
 | c::t =>
  if dval c<b then
   match t with
   | u::d::r=>if u=95∧dval d<b then 2+rowL b (d::r) else 1+rowL b (u::d::r)
   | [x]=>1+rowL b [x]
   | []=>1
  else 0
termination_by l=>l.length
theorem zGn (b:Nat):rowL b []=0:=by rw [rowL]
theorem zNj {b c:Nat} {t:List Nat} (h:¬ dval c<b):rowL b (c::t)=0:=by rw [rowL.eq_def];simp only [iN h]
theorem zGo {b c d:Nat} {r:List Nat} (h:dval c<b) (hd:dval d<b):rowL b (c::95::d::r)=2+rowL b (d::r):=by
 rw [rowL.eq_def];simp only [iP h];rw [iP ⟨trivial,hd⟩]
theorem zJo {b c:Nat} {t:List Nat} (h:dval c<b) (hn:¬ (t.head?=some 95∧∃ d,t[1]?=some d∧dval d<b)):rowL b (c::t)=1+rowL b t:=by
 rw [rowL.eq_def];simp only [iP h];match t,hn with
 | [],_=>rw [zGn]
 | [x],_=>rfl
 | u::d::r,hn =>
  simp only [];rw [iN];rintro ⟨rfl,hd⟩;exact hn ⟨rfl,d,rfl,hd⟩
theorem kW (b:Nat):∀ l:List Nat,rowL b l≤l.length
 | []=>by rw [zGn];exact nR _
 | c::t=>by
  by_cases h:dval c<b
  ·by_cases hn:t.head?=some 95∧∃ d,t[1]?=some d∧dval d<b
   ·match t,hn with
    | [],hn=>simp at hn
    | [x],hn=>simp at hn
    | u::d::r,⟨h1,d',h2,h3⟩ =>
     simp at h1 h2;subst h1;subst h2;rw [zGo h h3];have:=kW b (d::r);simp only [lC] at this ⊢;omega
   ·rw [zJo h hn];have:=kW b t;simp only [lC];omega
  ·rw [zNj h];omega
termination_by l=>l.length
inductive RowP (b:Nat):List Nat→Prop
 | one {c:Nat}:dval c<b→RowP b [c]
 | next {c:Nat} {t:List Nat}:dval c<b→RowP b t→RowP b (c::t)
 | under {c:Nat} {t:List Nat}:dval c<b→RowP b t→RowP b (c::95::t)
def rowOK (b:Nat) (l:List Nat):Bool:=!l.isEmpty&&rowL b l == l.length
def bare (l:List Nat):List Nat:=if l.head?=some 95 then l.drop 1 else l
def wholeL (b:Nat) (l:List Nat):Nat:=if rowOK b (bare l) then 3 else 0
def signed (l:List Nat):Nat:=if l[1]?=some 43∨l[1]?=some 45 then 2 else 1
def powL (c1 c2:Nat) (l:List Nat):Nat :=
 if l.head?=some c1∨l.head?=some c2 then
  if 0<rowL 10 (l.drop (signed l)) then signed l+rowL 10 (l.drop (signed l)) else 0
 else 0
def tailK (b:Nat) (m:List Nat):Nat:=if m[rowL b m]?=some 46 then rowL b (m.drop (rowL b m+1))+1 else 0
def noDigit (b:Nat) (m:List Nat):Bool:=decide (tailK b m≠0∧rowL b m+(tailK b m-1)=0)
def zN (l:List Nat):Nat :=
 if rowOK 16 (bare l) then 3
 else if rowL 16 (bare l)=0∧l.head?=some 95 then 0
 else if noDigit 16 (bare l) then 0
 else if tailK 16 (bare l)=0∧rowL 16 (bare l)=0 then 0
 else if 0<powL 112 80 ((bare l).drop (rowL 16 (bare l)+tailK 16 (bare l)))∧rowL 16 (bare l)+tailK 16 (bare l)+powL 112 80 ((bare l).drop (rowL 16 (bare l)+tailK 16 (bare l)))=(bare l).length then 4 else 0
def tenL (l:List Nat):Nat :=
 if rowL 10 l=l.length∧0<rowL 10 l then (if l.head?≠some 48∨rowL 10 l=1 then 3 else wholeL 8 (l.drop 1))
 else if noDigit 10 l then 0
 else if 0<rowL 10 l+tailK 10 l∧0<tailK 10 l+powL 101 69 (l.drop (rowL 10 l+tailK 10 l))∧rowL 10 l+tailK 10 l+powL 101 69 (l.drop (rowL 10 l+tailK 10 l))=l.length then 4 else 0
def realL (l:List Nat):Nat :=
 if 1<l.length∧l.head?=some 48 then
  if l[1]?=some 98∨l[1]?=some 66 then wholeL 2 (l.drop 2)
  else if l[1]?=some 111∨l[1]?=some 79 then wholeL 8 (l.drop 2)
  else if l[1]?=some 120∨l[1]?=some 88 then zN (l.drop 2)
  else tenL l
 else tenL l
def kindL (l:List Nat):Nat :=
 if realL l≠0 then realL l
 else if l.getLast?≠some 105 then 0
 else if realL l.dropLast≠0∨(l.dropLast≠[]∧rowL 10 l.dropLast=l.dropLast.length) then 5 else 0

theorem zUl {b:Nat} {l:List Nat}:rowOK b l=true↔l≠[]∧rowL b l=l.length:=by unfold rowOK;simp
theorem zNk (b:Nat) (m:List Nat):rowL b m+tailK b m≤m.length:=by
 have h1:=kW b m;unfold tailK;split
 ·rename_i h;have h2:=kW b (m.drop (rowL b m+1));have h3:=(List.getElem?_eq_some_iff.1 h).1;rw [List.length_drop] at h2;omega
 ·omega
theorem gJ (c1 c2:Nat) (l:List Nat):powL c1 c2 l≤l.length:=by
 unfold powL;split
 ·rename_i h;split
  ·have h2:=kW 10 (l.drop (signed l));rw [List.length_drop] at h2;have h3:signed l≤l.length:=by
    unfold signed;split
    ·rename_i h4;rcases h4 with h4 | h4 <;> (have:=(List.getElem?_eq_some_iff.1 h4).1;omega)
    ·cases l with
     | nil=>simp at h
     | cons c t=>simp
   omega
  ·omega
 ·omega
open Go.RowKit
section
variable {P:Program}
def runAll (P:Program):List Oper→Act→World→Result Act
 | [],a,w=>.ok a w
 | o::l,a,w=>match (execOp a.eval o).run P w with
  | .ok (.value v) w'=>runAll P l (a.put o.dst v) w'
  | .ok .skip w'=>runAll P l (a.put o.dst undef) w'
  | .ok _ w' => .halt (.stuck "") w'
  | .halt h w'=>.halt h w'
def actAfter (P:Program) (l:List Oper) (a:Act):Act:=match runAll P l a default with
 | .ok a' _=>a'
 | .halt _ _=>a
theorem zBu {ops:Array Oper} {Q:Exit→Act→World→Prop}:∀ (l1 l2:List Oper) (a a':Act) (w w':World),(l1.all fun o=>o.guard.isNone)=true→runAll P l1 a w=.ok a' w'→wpList P ops Q l2 a' w'→wpList P ops Q (l1++l2) a w
 | [],l2,a,a',w,w',_,h,h2=>by simp only [runAll,Result.ok.injEq] at h;obtain ⟨rfl,rfl⟩:=h;exact h2
 | o::l1,l2,a,a',w,w',hg,h,h2=>by
  simp only [List.all_cons,Bool.and_eq_true] at hg;have hg1:o.guard=none:=Option.isNone_iff_eq_none.1 hg.1;simp only [List.cons_append];refine wpList_plain hg1 fun K hK=>?_;unfold runAll at h;unfold Oper.wp Oper.upon;generalize (execOp a.eval o).run P w=r at *;cases r with
  | halt h' w1=>simp at h
  | ok nx w1 =>
   cases nx with
   | value v=>exact hK _ _ (zBu l1 l2 _ _ _ _ hg.2 h h2)
   | skip=>exact hK _ _ (zBu l1 l2 _ _ _ _ hg.2 h h2)
   | _=>simp at h
theorem zLq {ops:Array Oper} {Q:Exit→Act→World→Prop} (n:Nat) {l:List Oper} {a:Act} {w:World} (hg:((l.take n).all fun o=>o.guard.isNone)=true) (h:runAll P (l.take n) a w=.ok (actAfter P (l.take n) a) w)
  (h2:wpList P ops Q (l.drop n) (actAfter P (l.take n) a) w):wpList P ops Q l a w:=by
 have:=zBu (ops:=ops) (Q:=Q) (l.take n) (l.drop n) a _ w w hg h h2
 rwa [List.take_append_drop] at this
end
set_option maxRecDepth 100000
set_option maxHeartbeats 32000000
def yI (k:IntKind):Array Value:=(zK.flatMap fun p=>[Value.int k p.1,Value.int k p.2]).toArray
def zeros (n:Nat):Array Value:=(List.replicate n (Value.int .i32 0)).toArray
theorem zero61 (w:World):(zeroValue 141).run Tryz.prog w=.ok (.agg (zeros 66)) w:=by kernel_rfl
theorem zIn (w:World) :
  Calls Tryz.prog 109 #[] w fun e w'=>e=.returned (.agg (yI .i32))∧Below w.heap.size w w':=by
 have hz:=zero61;go_enter Tryz.func109,Tryz.ntmps109;go_upto_region 1 with (fail);refine wp_region_lit ?_;refine zLq 34 (by kernel_rfl) (by kernel_rfl) ?_;refine wpList_store_row rfl 141 (.tmp 0) (.tmp 34) rfl w.heap.size (yI .i32) (by kernel_rfl) (by kernel_rfl) 141 (zeros 66) (heap_alloc_new _ _) (by kernel_rfl) (by kernel_rfl) (by kernel_rfl) ?_;refine wpList_nil ?_;generalize hA:(actAfter _ _ _).put _ undef=A;have hA0:A.tmps.getD 0 undef=.pointer (some ⟨w.heap.size,0,none⟩):=by rw [← hA];kernel_rfl
 have hAd:A.defers=[]:=by rw [← hA];kernel_rfl
 clear hA hz;obtain ⟨tm,df⟩:=A;simp only [] at hA0 hAd;subst hAd;rename_i hK;refine hK _ _ (wp_ret ?_);refine bodyPost_ret (results_cell_row rfl tm _ w.heap.size 141 (yI .i32) (0,0) _ hA0 ?_ Tryz.underlying141 rfl (by kernel_rfl)) rfl ?_
 ·rw [World.setRow_alloc_new];exact heap_alloc_new _ _
 ·exact ⟨rfl,by rw [World.setRow_alloc_new];exact (bR _ _).alloc (nR _) _⟩
theorem zFr:∀ i,i<33→(yI .i32)[2*i]?=some (.int .i32 (frm zK i))∧(yI .i32)[2*i+1]?=some (.int .i32 (too zK i)):=by
 intro i hi;have h:∀ i:Fin 33,(zK.flatMap fun p=>[(p.1:Int),(p.2:Int)])[2*i.val]?=some ((frm zK i.val:Nat):Int)∧(zK.flatMap fun p=>[(p.1:Int),(p.2:Int)])[2*i.val+1]?=some ((too zK i.val:Nat):Int):=by decide +kernel
 have e:yI .i32=((zK.flatMap fun p=>[(p.1:Int),(p.2:Int)]).map (Value.int .i32)).toArray:=by
  unfold yI;rw [List.map_flatMap];rfl
 have:=h ⟨i,hi⟩;rw [e];simp only [List.getElem?_toArray,List.getElem?_map];rw [this.1,this.2];exact ⟨rfl,rfl⟩
theorem fJ (r:Int) (w:World) :
  Calls Tryz.prog 71 #[.int .i32 r] w fun e w'=>e=.returned (.bool (letter r))∧Below w.heap.size w w':=by
 have hz:=zero61;go_enter Tryz.func71,Tryz.ntmps71;go_wp2_with fail;refine (zIn _).mono ?_;rintro e w1 ⟨rfl,hb1⟩;go_wp2_with (refine wpList_store_row rfl 141 (.tmp 3) (.tmp 7) rfl w1.heap.size (yI .i32) rfl rfl 141 (zeros 66) (heap_alloc_new _ _) (by kernel_rfl) (by kernel_rfl) (by kernel_rfl) ?_;rw [World.setRow_alloc_new]);have hcell:∀ j,(w1.alloc (.cells (yI .i32) 141)).cell? ⟨w1.heap.size,j,none⟩=(yI .i32)[j]?:=fun j=>World.cell?_alloc_at _ _ _ _ rfl
 have hbW:Below w.heap.size w (w1.alloc (.cells (yI .i32) 141)):=hb1.alloc hb1.size _;generalize w1.alloc (.cells (yI .i32) 141)=W at *;generalize w1.heap.size=B at *;have HC:=Hd hcell;have HB:=Hd hbW;clear hcell hbW hb1 hz;generalize yI .i32=LC
 go_loop [4,5] (fun a b=>∃ lo hi:Nat,a=.int .i64 lo∧b=.int .i64 hi∧lo≤hi∧hi≤33∧(∀ i,i<lo→(too zK i:Int)<r)∧(∀ i,hi≤i→i<33→r<(frm zK i:Int))) (fun a b=>(intOf b-intOf a).toNat)
 case atStart=>exact ⟨0,33,rfl,rfl,by omega,by omega,fun i h=>by omega,fun i h1 h2=>by omega⟩
 case round =>
  obtain ⟨lo,hi,rfl,rfl,hle,h33,hlo,hhi⟩:=hrel;have HLO:=Hd hlo;have HHI:=Hd hhi;clear hlo hhi;by_cases hlt:lo<hi
  ·have hmid:(lo+hi) / 2<33:=by omega
   have hm:=zFr _ hmid;have hs1:=zFu;have hsm:=zIo _ hmid;have hc0:W.cell? ⟨B,(lo+hi) / 2*2,none⟩=some (.int .i32 (frm zK ((lo+hi) / 2))):=by rw [HC.out,Nat.mul_comm];exact hm.1
   have hc1:W.cell? ⟨B,(lo+hi) / 2*2+1,none⟩=some (.int .i32 (too zK ((lo+hi) / 2))):=by rw [HC.out,Nat.mul_comm];exact hm.2
   have HS:=Hd hs1;clear hm hs1;have hml:lo≤(lo+hi) / 2:=by omega
   have hmh:(lo+hi) / 2<hi:=by omega
   generalize hf:frm zK ((lo+hi) / 2)=f at *;generalize ht:too zK ((lo+hi) / 2)=t at *;have HF:=Hd hf;have HT:=Hd ht;clear hf ht;go_wp2_with fail
   ·have hrf:r<(f:Int):=by assumption
    go_round
    case rel=>exact ⟨lo,(lo+hi) / 2,rfl,by go_num,hml,by omega,HLO.out,fun i h1 h2=>by have:=(HS.out _ hmid i h2 h1).1;have:=HF.out;omega⟩
    case measure=>simp [intOf];omega
   ·have hrt:(t:Int)<r:=by assumption
    go_round
    case rel=>exact ⟨(lo+hi) / 2+1,hi,by go_num,rfl,by omega,h33,fun i h1=>by have:=(HS.out i (by omega) _ hmid (by omega)).2;have:=HT.out;omega,HHI.out⟩
    case measure=>simp [intOf];omega
   ·go_ret;have h1:(f:Int)≤r:=by omega
    have h2:r≤(t:Int):=by omega
    exact ⟨xE (by unfold letter;exact (yCm zK r _ hmid (by rw [HF.out];exact h1) (by rw [HT.out];exact h2)).symm),HB.out⟩
  ·go_wp2_with fail;go_ret;have hno:inR zK r=false:=zXc zK r fun i hi'=>by
    by_cases h:i<lo
    ·exact Or.inr (HLO.out i h)
    ·exact Or.inl (HHI.out i (by omega) hi')
   exact ⟨xE (by unfold letter;exact hno.symm),HB.out⟩
theorem zEb (r:Int) (hr:-2147483648≤r∧r≤2147483647) (w:World) :
  Calls Tryz.prog 72 #[.int .i32 r] w fun e w'=>e=.returned (.bool (digit r))∧w=w':=by
 have i0:∀ w,(Instr.index 143 (.agg #[.int .i32 48,.int .i32 1632,.int .i32 2406,.int .i32 3664,.int .i32 65296]) (.int .i64 0)).run Tryz.prog w=.ok (.int .i32 48) w:=fun _=>by kernel_rfl
 have i1:∀ w,(Instr.index 143 (.agg #[.int .i32 48,.int .i32 1632,.int .i32 2406,.int .i32 3664,.int .i32 65296]) (.int .i64 1)).run Tryz.prog w=.ok (.int .i32 1632) w:=fun _=>by kernel_rfl
 have i2:∀ w,(Instr.index 143 (.agg #[.int .i32 48,.int .i32 1632,.int .i32 2406,.int .i32 3664,.int .i32 65296]) (.int .i64 2)).run Tryz.prog w=.ok (.int .i32 2406) w:=fun _=>by kernel_rfl
 have i3:∀ w,(Instr.index 143 (.agg #[.int .i32 48,.int .i32 1632,.int .i32 2406,.int .i32 3664,.int .i32 65296]) (.int .i64 3)).run Tryz.prog w=.ok (.int .i32 3664) w:=fun _=>by kernel_rfl
 have i4:∀ w,(Instr.index 143 (.agg #[.int .i32 48,.int .i32 1632,.int .i32 2406,.int .i32 3664,.int .i32 65296]) (.int .i64 4)).run Tryz.prog w=.ok (.int .i32 65296) w:=fun _=>by kernel_rfl
 go_enter Tryz.func72,Tryz.ntmps72;go_wp2_with fail
 go_rounds 7
 all_goals go_ret
 all_goals (refine ⟨xE ?_,rfl⟩;clear i0 i1 i2 i3 i4;rw [Bool.eq_iff_iff];unfold digit inR zFc;simp;omega)
theorem zMv (r:Int) (w:World) :
  Calls Tryz.prog 175 #[.int .i32 r] w fun e w'=>e=.returned (.bool (blank r))∧w=w':=by
 go_enter Tryz.func175,Tryz.ntmps175;go_wp2_with fail;all_goals go_ret
 all_goals (refine ⟨xE ?_,rfl⟩;rw [Bool.eq_iff_iff];unfold blank;simp;try omega)
theorem zFs (r:Int) (hr:-2147483648≤r∧r≤2147483647) (w:World) :
  Calls Tryz.prog 229 #[.int .i32 r] w fun e w'=>e=.returned (.int .i64 (base r))∧w=w':=by
 go_enter Tryz.func229,Tryz.ntmps229;go_wp2_with fail;all_goals go_ret
 all_goals (refine ⟨zFg ?_,rfl⟩)
 all_goals (clear hr;unfold base;repeat (first | rw [iP (by omega)] | rw [iN (by omega)] | rfl))
theorem zFt (s:ByteArray) (w:World) :
  Calls Tryz.prog 69 #[.string s] w fun e w'=>e=.returned (.bool (word s))∧w=w':=by
 go_enter Tryz.func69,Tryz.ntmps69;go_wp2_with fail;all_goals go_ret
 all_goals (refine ⟨xE ?_,rfl⟩)
 all_goals first | (unfold word words;simp only [List.any_cons,List.any_nil, *,Bool.true_or,Bool.or_true,Bool.or_false];done) | (exfalso;simp_all;done)
def nats (l:List Nat):List Int:=l.map fun (n:Nat)=>(n:Int)
theorem kM (s:ByteArray) (w:World) (hT:Tabs w) :
  Calls Tryz.prog 48 #[.string s] w fun e w'=>e=.returned (.bool (name s))∧Below w.heap.size w w':=by
 have CW:=Hd (fun w=>zFt s w);have CB:=Hd (fun w hT=>zKe s w hT);have HN:=Hd (show name s=(!s.toList.isEmpty&&!word s&&decide (bad s<0)&&chk true (nats (chars s))) by unfold name nats;rfl);cases he:s.toList.isEmpty
 ·have he2:(s.toList == [])=false:=by
   rw [bE];intro e;rw [e] at he;cases he
  cases hw:word s
  ·rw [hw] at CW;by_cases hb:bad s<0
   ·have hb2:decide (0≤bad s)=false:=by simpa using hb
    have HB:=Hd ((yCc s).1 hb);have HN2:Hid (name s=chk true (nats (scan s 0).1)):=by
     have:=HN.out;rw [he,hw,decide_eq_true hb] at this;rw [this];unfold chars;rfl
    clear HN hw hb;go_enter Tryz.func48,Tryz.ntmps48;go_wp2_with fail;refine (CW.out _).mono ?_;rintro e w1 ⟨rfl,rfl⟩;go_wp2_with fail;refine (CB.out _ hT).mono ?_;rintro e w1 ⟨rfl,hb1⟩;go_wp2_with fail;have hz1:=hb1.size;go_loopw [] (fun wr=>∃ pos,wr.heap[w1.heap.size]?=some (.stringIter s pos)∧pos≤s.size∧(scan s pos).2=none∧name s=chk (pos == 0) (nats (scan s pos).1)∧Below w.heap.size w wr) (fun wr=>iterLeft w1.heap.size wr)
    case atStart=>exact ⟨0,World.iter_heap _ _ _,Nat.zero_le _,HB.out,HN2.out,hb1.alloc hb1.size _⟩
    case round =>
     obtain ⟨pos,hk,hpos,hnn,hnm,hb⟩:=hrel;have HK:=Hd hk;have HNM:=Hd hnm;have HNN:=Hd hnn;have hz:=zG hk;clear hnm;by_cases hp:pos<s.size
     ·have hn:=fun ty=>Lib.run_next_any_at (P:=Tryz.prog) wr w1.heap.size s pos ty hk hp
      have hb2':Below w.heap.size w (wr.iterAt w1.heap.size s (pos+(Utf8.decode s pos).2)):=Lib.below_iterAt hb (by omega) _ _;have hk2:=Lib.iterAt_heap wr w1.heap.size s pos (pos+(Utf8.decode s pos).2) hk;generalize hW:wr.iterAt w1.heap.size s (pos+(Utf8.decode s pos).2)=W at *;rcases kJ s pos hp with ⟨h1,h2⟩ | ⟨h1,h2,h3,h4,h5,h6⟩
      ·exact absurd h1 (zZu hp hnn)
      ·have HR:=Hd (fE hp (by omega));have hrl:=zTp s pos;rw [h6] at hn hk2;generalize rd s pos=d at *;obtain ⟨d1,d2⟩:=d;simp only [] at *;have hp2:=Hd h3;have CL:=Hd (fun w=>fJ d1 w);have CD:=Hd (fun w=>zEb d1 (by omega) w);have hnx:name s=((letter d1 || (!(pos == 0)&&digit d1))&&chk false (nats (scan s (pos+d2)).1)):=by
        rw [HNM.out,HR.out];rfl
       have HNX:=Hd hnx;have hq:((pos:Int) == 0)=(pos == 0):=by rw [Bool.eq_iff_iff];simp
       have hp0:(pos+d2 == 0)=false:=by simp;omega
       have HP0:=Hd hp0;clear hW h4 h5 h6 h3 hk hnn hnx hp0;cases hl:letter d1
       ·rw [hl] at CL HNX;cases h0:(pos == 0)
        ·rw [h0] at hq HNX;cases hd:digit d1
         ·rw [hd] at CD HNX;clear hl hd h0;go_wp2_with fail;refine (CL.out _).mono ?_;rintro e w3 ⟨rfl,hb3⟩;go_wp2_with fail;refine (CD.out _).mono ?_;rintro e w4 ⟨rfl,rfl⟩;go_wp2_with fail;go_ret;exact ⟨xE (by rw [HNX.out];rfl),zC hb2' hb3⟩
         ·rw [hd] at CD HNX;clear hl hd h0;go_wp2_with fail;refine (CL.out _).mono ?_;rintro e w3 ⟨rfl,hb3⟩;have hk3:=keeps hb3 hk2;go_wp2_with fail;refine (CD.out _).mono ?_;rintro e w4 ⟨rfl,rfl⟩;go_wp2_with fail;go_roundw
          case rel=>exact ⟨pos+d2,hk3,hp2.out,by rw [← HNN.out,HR.out],by rw [HNX.out,HP0.out];rfl,zC hb2' hb3⟩
          case measure=>rw [zX hk3,zX HK.out];have:=hp2.out;omega
        ·rw [h0] at hq HNX;clear hl h0;go_wp2_with fail;refine (CL.out _).mono ?_;rintro e w3 ⟨rfl,hb3⟩;go_wp2_with fail;go_ret;exact ⟨xE (by rw [HNX.out];rfl),zC hb2' hb3⟩
       ·rw [hl] at CL HNX;clear hl hq;go_wp2_with fail;refine (CL.out _).mono ?_;rintro e w3 ⟨rfl,hb3⟩;have hk3:=keeps hb3 hk2;go_wp2_with fail;go_roundw
        case rel=>exact ⟨pos+d2,hk3,hp2.out,by rw [← HNN.out,HR.out],by rw [HNX.out,HP0.out];simp,zC hb2' hb3⟩
        case measure=>rw [zX hk3,zX HK.out];have:=hp2.out;omega
     ·have hn:=fun ty=>Lib.run_next_end_at (P:=Tryz.prog) wr w1.heap.size s pos ty hk hp
      have HE:=Hd (show name s=true by rw [HNM.out,zIm (by omega)];rfl);clear hk hnn;go_wp2_with fail;go_ret;exact ⟨xE HE.out.symm,hb⟩
   ·have hb2:decide (0≤bad s)=true:=by simpa using hb
    have HN2:Hid (name s=false):=by
     have:=HN.out;rw [he,hw,decide_eq_false hb] at this;rw [this];rfl
    clear HN hw hb;go_enter Tryz.func48,Tryz.ntmps48;go_wp2_with fail;refine (CW.out _).mono ?_;rintro e w1 ⟨rfl,rfl⟩;go_wp2_with fail;refine (CB.out _ hT).mono ?_;rintro e w1 ⟨rfl,hb1⟩;go_wp2_with fail;go_ret;exact ⟨xE HN2.out.symm,hb1⟩
  ·rw [hw] at CW;have HN2:Hid (name s=false):=by
    have:=HN.out;rw [he,hw] at this;rw [this];rfl
   clear HN hw;go_enter Tryz.func48,Tryz.ntmps48;go_wp2_with fail;refine (CW.out _).mono ?_;rintro e w1 ⟨rfl,rfl⟩;go_wp2_with fail;go_ret;exact ⟨xE HN2.out.symm,bR _ _⟩
 ·have he2:(s.toList == [])=true:=by
   rw [List.isEmpty_iff.1 he];rfl
  have HN2:Hid (name s=false):=by
   have:=HN.out;rw [he] at this;rw [this];rfl
  clear HN;go_enter Tryz.func48,Tryz.ntmps48;go_wp2_with fail;go_ret;exact ⟨xE HN2.out.symm,bR _ _⟩
end Go.Proofs.YtbjkdmbcpkopjaaGreatDoor
