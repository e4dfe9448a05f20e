/- Layer 1 in plain Lean: what a character is, its form, which character begins at a place of a text; no program in sight. -/
import Derived.Laws.BytesArg
import Derived.Laws.Strings
import Derived.Lib.DecodeN
import Derived.Lib.RuneBytes
import Derived.Lib.Small
import Derived.Shelf.Strings.Builder1
import Derived.Shelf.Strings.Builder2
import Derived.Shelf.Strings.Trim
import Derived.Shelf.Small.Utf8
import Derived.Shelf.Small.Strs
import Derived.Shelf.Strings.BuilderF
import Derived.Shelf.Strings.BuilderK
import Derived.Shelf.Strings.Search1
import Derived.Shelf.Strings.Search2
import Derived.Shelf.Strings.Search3
import Derived.Shelf.Strings.Count
import Derived.Shelf.LaysM
import Derived.Shelf.Strings.Shaped
import Derived.Shelf.Strings.Prefix
import Derived.Shelf.Strings.Split
import Derived.Shelf.Strings.Replace
import Derived.Shelf.Strings.SplitShaped
import Derived.Shelf.Strings.Runes
import Derived.Shelf.Strings.AsciiSet
import Derived.Shelf.Strings.SlTrimAscii
import Derived.Shelf.Unicode.DecodeSlow
import Derived.Shelf.Unicode.DecodeAny
import Derived.Test.YtbjkdmbcpkopjaaGreatDoorProg
import Derived.Test.YtbjkdmbcpkopjaaGreatDoorCoreMt
import Derived.Deep.RegionWith
namespace Go.Proofs.YtbjkdmbcpkopjaaGreatDoor

@[irreducible] def may (r:Int):Bool:=decide (0≤r)&&decide (r≤1114111)&&(decide (r<55296) || decide (57343<r))
theorem xL (r:Int):may r=true↔0≤r∧r≤1114111∧(r<55296∨57343<r):=by unfold may;simp [and_assoc]
theorem yBz (r:Int):may r=false↔r<0∨1114111<r∨(55296≤r∧r≤57343):=by
 rw [← Bool.not_eq_true,xL];omega
def formZ (r:Int):List Int :=
 if may r=false then [] else if r<128 then [r] else if r<2048 then [192+r / 64,128+r % 64]
 else if r<65536 then [224+r / 4096,128+r / 64 % 64,128+r % 64]
 else [240+r / 262144,128+r / 4096 % 64,128+r / 64 % 64,128+r % 64]
@[irreducible] def form (r:Int):ByteArray:=strOfNums (formZ r)
theorem zKm {r:Int} (h:may r=false):form r=ByteArray.empty:=by
 unfold form formZ;rw [iP h];rfl
theorem yDb {r:Int} (h:may r=true) (h1:r<128):form r=strOfNums [r]:=by
 unfold form formZ;rw [iN (by simp [h]),iP h1]
theorem yDc {r:Int} (h:may r=true) (h1:128≤r) (h2:r<2048):form r=strOfNums [192+r / 64,128+r % 64]:=by
 unfold form formZ;rw [iN (by simp [h]),iN (by omega),iP h2]
theorem yDd {r:Int} (h:may r=true) (h1:2048≤r) (h2:r<65536):form r=strOfNums [224+r / 4096,128+r / 64 % 64,128+r % 64]:=by
 unfold form formZ;rw [iN (by simp [h]),iN (by omega),iN (by omega),iP h2]
theorem yDe {r:Int} (h:may r=true) (h1:65536≤r):form r=strOfNums [240+r / 262144,128+r / 4096 % 64,128+r / 64 % 64,128+r % 64]:=by
 unfold form formZ;rw [iN (by simp [h]),iN (by omega),iN (by omega),iN (by omega)]

def bt (s:ByteArray) (i:Nat):Nat:=(s.get! i).toNat
theorem yQ (s:ByteArray) (i:Nat):bt s i<256:=by unfold bt;exact (s.get! i).toNat_lt
theorem get!_lt (s:ByteArray) (k:Nat) (h:k<s.size):s.get! k=s[k]'h:=by
 cases s with
 | mk d=>exact getElem!_pos d k h
theorem get!_ge (s:ByteArray) (k:Nat) (h:s.size≤k):s.get! k=0:=by
 cases s with
 | mk d=>exact getElem!_neg d k (by exact Nat.not_lt.2 h)
theorem get!_extract (s:ByteArray) (a b k:Nat) (h:a+k<b) (hb:b≤s.size):(s.extract a b).get! k=s.get! (a+k):=by
 have h1:k<(s.extract a b).size:=by simp;omega
 rw [get!_lt _ _ h1,get!_lt _ _ (by omega)];simp [ByteArray.getElem_extract]
theorem xC (s:ByteArray) (i:Nat) (h:i<s.size):(s[i]'h).toNat=bt s i:=by unfold bt;rw [get!_lt s i h]

@[irreducible] def rd (s:ByteArray) (i:Nat):Nat×Nat :=
 if i<s.size then (if (Utf8.decode s i).1=65533∧(Utf8.decode s i).2<2 then (0,0) else Utf8.decode s i) else (0,0)

def refAcc (s:ByteArray) (i n:Nat):Nat→Nat
 | 0=>0
 | 1=>if n≤1 then bt s i else bt s i % 2 ^ (7-n)
 | k+2=>64*refAcc s i n (k+1)+bt s (i+(k+1)) % 64
def refV (s:ByteArray) (i n:Nat):Nat:=refAcc s i n n
def refTry (s:ByteArray) (i n:Nat):Bool:=(form (refV s i n)).toList == (s.extract i (i+n)).toList

@[irreducible] def rdI (s:ByteArray) (i:Int):Nat×Nat:=if i<0 then (0,0) else rd s i.toNat
theorem zBi (s:ByteArray) (i:Nat):rdI s i=rd s i:=by unfold rdI;rw [iN (by omega),Int.toNat_natCast]
theorem yCa {s:ByteArray} {i:Int} (h:i<0):rdI s i=(0,0):=by unfold rdI;rw [iP h]

theorem zCx (s:ByteArray) (i n:Nat) (h:i+n≤s.size):(s.extract i (i+n)).toList=(List.range n).map fun k=>s.get! (i+k):=by
 apply List.ext_getElem
 ·simp [ByteArray.toList_eq];have:s.data.size=s.size:=rfl;omega
 ·intro k h1 h2;simp [ByteArray.toList_eq] at h1 ⊢;rw [get!_lt _ _ (by omega)];rfl

theorem xU (n:Nat) (h:n<256):(UInt8.ofNat n).toNat=n:=by simp;omega
theorem zBo (x:Int) (b:UInt8) (h0:0≤x) (h:x<256):(UInt8.ofNat x.toNat=b)↔x=(b.toNat:Int):=by
 constructor
 ·intro e;have:=congrArg UInt8.toNat e;rw [xU _ (by omega)] at this;omega
 ·intro e;apply UInt8.toNat.inj;rw [xU _ (by omega)];omega

theorem zFn (s:ByteArray) (i n:Nat) (h:i+n≤s.size) :
  refTry s i n=true↔(formZ (refV s i n)).map (fun x=>UInt8.ofNat x.toNat)=(List.range n).map fun k=>s.get! (i+k):=by
 unfold refTry;rw [zCx s i n h,beq_iff_eq];unfold form;rw [ByteArray.toList_eq,strOfNums_data]

theorem fY {s:ByteArray} {i:Nat} (h:i<s.size):rd s i=if (Utf8.decode s i).1=65533∧(Utf8.decode s i).2<2 then (0,0) else Utf8.decode s i:=by
 unfold rd;rw [iP h]

theorem zDv (s:ByteArray) (i:Nat):refV s i 1=bt s i:=by simp [refV,refAcc]
theorem zDw (s:ByteArray) (i:Nat):refV s i 2=64*(bt s i % 32)+bt s (i+1) % 64:=by simp [refV,refAcc]
theorem zIj (s:ByteArray) (i:Nat):refV s i 3=64*(64*(bt s i % 16)+bt s (i+1) % 64)+bt s (i+2) % 64:=by simp [refV,refAcc]
theorem zIk (s:ByteArray) (i:Nat):refV s i 4=64*(64*(64*(bt s i % 8)+bt s (i+1) % 64)+bt s (i+2) % 64)+bt s (i+3) % 64:=by simp [refV,refAcc]

theorem zPq (s:ByteArray) (i:Nat) (h:i+1≤s.size):refTry s i 1=true↔bt s i<128:=by
 have hb:=yQ s i;rw [zFn s i 1 h,zDv];unfold formZ;by_cases h1:bt s i<128
 ·have hm:may (bt s i:Int)=true:=by rw [xL];omega
  rw [iN (by simp [hm]),iP (by omega)];simp only [List.map_cons,List.map_nil,List.range_one,Nat.add_zero,List.cons.injEq,and_true];rw [zBo _ _ (by omega) (by omega)];simp only [h1,iff_true];rfl
 ·have hm:may (bt s i:Int)=true:=by rw [xL];omega
  rw [iN (by simp [hm]),iN (by omega),iP (by omega)];simp [h1]
theorem yCl (s:ByteArray) (i:Nat) (h:i+2≤s.size):refTry s i 2=true↔(bt s i / 32=6∧bt s (i+1) / 64=2∧128≤refV s i 2):=by
 have h0:=yQ s i;have h1:=yQ s (i+1);rw [zFn s i 2 h];have hv:refV s i 2<2048:=by rw [zDw];omega
 have hm:may (refV s i 2:Int)=true:=by rw [xL];omega
 unfold formZ;rw [iN (by simp [hm])];have er:List.range 2=[0,1]:=rfl;rw [er];by_cases hl:(refV s i 2:Int)<128
 ·rw [iP hl];simp;intros;omega
 ·rw [iN hl,iP (by omega)];simp only [List.map_cons,List.map_nil,Nat.add_zero,List.cons.injEq,and_true];rw [zBo _ _ (by omega) (by omega),zBo _ _ (by omega) (by omega)];show _=(bt s i:Int)∧_=(bt s (i+1):Int)↔_;rw [zDw] at hl ⊢;omega
theorem yAn (s:ByteArray) (i:Nat) (h:i+3≤s.size):refTry s i 3=true↔(bt s i / 16=14∧bt s (i+1) / 64=2∧bt s (i+2) / 64=2∧2048≤refV s i 3∧may (refV s i 3)=true):=by
 have h0:=yQ s i;have h1:=yQ s (i+1);have h2:=yQ s (i+2);rw [zFn s i 3 h];have hv:refV s i 3<65536:=by rw [zIj];omega
 unfold formZ;have er:List.range 3=[0,1,2]:=rfl;rw [er];by_cases hm:may (refV s i 3:Int)=true
 ·rw [iN (by simp [hm])];by_cases ha:(refV s i 3:Int)<128
  ·rw [iP ha];simp;intros;omega
  ·rw [iN ha];by_cases hl:(refV s i 3:Int)<2048
   ·rw [iP hl];simp;intros;omega
   ·rw [iN hl,iP (by omega)];simp only [List.map_cons,List.map_nil,Nat.add_zero,List.cons.injEq,and_true,hm];rw [zBo _ _ (by omega) (by omega),zBo _ _ (by omega) (by omega),zBo _ _ (by omega) (by omega)];show _=(bt s i:Int)∧_=(bt s (i+1):Int)∧_=(bt s (i+2):Int)↔_;rw [zIj] at hl ⊢;omega
 ·have hf:may (refV s i 3:Int)=false:=by simpa using hm
  rw [iP hf];simp [hf]
theorem yAo (s:ByteArray) (i:Nat) (h:i+4≤s.size):refTry s i 4=true↔(bt s i / 8=30∧bt s (i+1) / 64=2∧bt s (i+2) / 64=2∧bt s (i+3) / 64=2∧65536≤refV s i 4∧may (refV s i 4)=true):=by
 have h0:=yQ s i;have h1:=yQ s (i+1);have h2:=yQ s (i+2);have h3:=yQ s (i+3);rw [zFn s i 4 h];have hv:refV s i 4<2097152:=by rw [zIk];omega
 unfold formZ;have er:List.range 4=[0,1,2,3]:=rfl;rw [er];by_cases hm:may (refV s i 4:Int)=true
 ·rw [iN (by simp [hm])];by_cases ha:(refV s i 4:Int)<128
  ·rw [iP ha];simp;intros;omega
  ·rw [iN ha];by_cases hl:(refV s i 4:Int)<2048
   ·rw [iP hl];simp;intros;omega
   ·rw [iN hl];by_cases hl3:(refV s i 4:Int)<65536
    ·rw [iP hl3];simp;intros;omega
    ·rw [iN hl3];have hm':=(xL _).1 hm;simp only [List.map_cons,List.map_nil,Nat.add_zero,List.cons.injEq,and_true,hm];rw [zBo _ _ (by omega) (by omega),zBo _ _ (by omega) (by omega),zBo _ _ (by omega) (by omega),zBo _ _ (by omega) (by omega)];show _=(bt s i:Int)∧_=(bt s (i+1):Int)∧_=(bt s (i+2):Int)∧_=(bt s (i+3):Int)↔_;rw [zIk] at hl hl3 hm' ⊢;omega
 ·have hf:may (refV s i 4:Int)=false:=by simpa using hm
  rw [iP hf];simp [hf]

theorem zBj (s:ByteArray) (i:Nat):Utf8.decode s i=Lib.decodeN (s.size-i) (bt s i) (bt s (i+1)) (bt s (i+2)) (bt s (i+3)):=Lib.decode_at s i

theorem zIl (s:ByteArray) (i n:Nat) (h1:1≤n) (h4:n≤4) (h:i+n≤s.size) (ht:refTry s i n=true):Utf8.decode s i=(refV s i n,n):=by
 have h0:=yQ s i;have g1:=yQ s (i+1);have g2:=yQ s (i+2);have g3:=yQ s (i+3);rw [zBj];have hn:n=1∨n=2∨n=3∨n=4:=by omega
 unfold Lib.decodeN;rcases hn with rfl | rfl | rfl | rfl
 ·rw [zPq s i h] at ht;rw [zDv,iP ht]
 ·rw [yCl s i h] at ht;rw [zDw] at ht ⊢;rw [iN (by omega),iP (by omega),iP (by omega)]
  congr 1;omega
 ·rw [yAn s i h,xL] at ht;rw [zIj] at ht ⊢;rw [iN (by omega),iN (by omega),iP (by omega),iP (by omega)]
  congr 1;omega
 ·rw [yAo s i h,xL] at ht;rw [zIk] at ht ⊢;rw [iN (by omega),iN (by omega),iN (by omega),iP (by omega),iP (by omega)]
  congr 1;omega
theorem zMg (s:ByteArray) (i n:Nat) (h1:1≤n) (h4:n≤4) (h:i+n≤s.size) (ht:refTry s i n=true):rd s i=(refV s i n,n):=by
 rw [fY (by omega),zIl s i n h1 h4 h ht,iN];rintro ⟨a,b⟩;have hn:n=1:=by simp at b;omega
 subst hn;rw [zPq s i h] at ht;simp [zDv] at a;omega

theorem zFb (s:ByteArray) (i:Nat) (hs:i<s.size) (h:∀ n,1≤n→n≤4→i+n≤s.size→refTry s i n=false):Utf8.decode s i=(65533,1):=by
 have h0:=yQ s i;have g1:=yQ s (i+1);have g2:=yQ s (i+2);have g3:=yQ s (i+3);have t1:=h 1 (by omega) (by omega) (by omega);rw [← Bool.not_eq_true,zPq s i (by omega)] at t1;rw [zBj];unfold Lib.decodeN;rw [iN t1];split
 ·have t:=h 2 (by omega) (by omega) (by omega);rw [← Bool.not_eq_true,yCl s i (by omega),zDw] at t;rw [iN (by omega)]
 ·split
  ·have t:=h 3 (by omega) (by omega) (by omega);rw [← Bool.not_eq_true,yAn s i (by omega),xL,zIj] at t;rw [iN (by omega)]
  ·split
   ·have t:=h 4 (by omega) (by omega) (by omega);rw [← Bool.not_eq_true,yAo s i (by omega),xL,zIk] at t;rw [iN (by omega)]
   ·rfl
theorem zTo (s:ByteArray) (i:Nat) (h:∀ n,1≤n→n≤4→i+n≤s.size→refTry s i n=false):rd s i=(0,0):=by
 by_cases hs:i<s.size
 ·rw [fY hs,zFb s i hs h,iP (by simp)]
 ·unfold rd;rw [iN hs]

theorem zSu {s:ByteArray} {i:Nat} (h:s.size≤i):rd s i=(0,0):=by unfold rd;rw [iN (by omega)]

theorem jI (s:ByteArray) (i:Nat):(rd s i).2≤4∧i+(rd s i).2≤max i s.size:=by
 by_cases h:∃ n,1≤n∧n≤4∧i+n≤s.size∧refTry s i n=true
 ·obtain ⟨n,h1,h4,hn,ht⟩:=h;rw [zMg s i n h1 h4 hn ht];simp;omega
 ·rw [zTo s i fun n h1 h4 hn=>by
   cases ht:refTry s i n
   ·rfl
   ·exact absurd ⟨n,h1,h4,hn,ht⟩ h]
  simp;omega
theorem yCb (s:ByteArray) (i n:Nat) (h1:1≤n) (h4:n≤4) (h:i+n≤s.size) (ht:refTry s i n=true):may (refV s i n)=true:=by
 have h0:=yQ s i;have g1:=yQ s (i+1);have hn:n=1∨n=2∨n=3∨n=4:=by omega
 rcases hn with rfl | rfl | rfl | rfl
 ·rw [zPq s i h] at ht;rw [xL,zDv];omega
 ·rw [xL,zDw];omega
 ·rw [yAn s i h] at ht;exact ht.2.2.2.2
 ·rw [yAo s i h] at ht;exact ht.2.2.2.2.2
theorem kJ (s:ByteArray) (i:Nat) (hi:i<s.size) :
  (rd s i=(0,0)∧Utf8.decode s i=(65533,1)) ∨
  (1≤(rd s i).2∧(rd s i).2≤4∧i+(rd s i).2≤s.size∧may (rd s i).1=true∧form (rd s i).1=s.extract i (i+(rd s i).2)∧Utf8.decode s i=rd s i):=by
 by_cases h:∃ n,1≤n∧n≤4∧i+n≤s.size∧refTry s i n=true
 ·obtain ⟨n,h1,h4,hn,ht⟩:=h;right;rw [zMg s i n h1 h4 hn ht];refine ⟨h1,h4,hn,yCb s i n h1 h4 hn ht,?_,zIl s i n h1 h4 hn ht⟩;unfold refTry at ht;rw [beq_iff_eq,ByteArray.toList_eq,ByteArray.toList_eq] at ht;exact ByteArray.ext (Array.ext' ht)
 ·have hh:∀ n,1≤n→n≤4→i+n≤s.size→refTry s i n=false:=fun n h1 h4 hn=>by
   cases ht:refTry s i n
   ·rfl
   ·exact absurd ⟨n,h1,h4,hn,ht⟩ h
  exact Or.inl ⟨zTo s i hh,zFb s i hi hh⟩

theorem zTp (s:ByteArray) (i:Nat):(rd s i).1≤1114111:=by
 by_cases hi:i<s.size
 ·rcases kJ s i hi with ⟨h,_⟩ | ⟨_,_,_,h,_,_⟩
  ·rw [h];simp
  ·have:=(xL _).1 h;omega
 ·unfold rd;rw [iN hi];simp
def scanF:Nat→ByteArray→Nat→List Nat×Option Nat
 | 0,_,_=>([],none)
 | f+1,s,i=>if i<s.size then (if (rd s i).2=0 then ([],some i) else ((rd s i).1::(scanF f s (i+(rd s i).2)).1,(scanF f s (i+(rd s i).2)).2)) else ([],none)
@[irreducible] def scan (s:ByteArray) (i:Nat):List Nat×Option Nat:=scanF (s.size-i) s i
theorem zSv (s:ByteArray):∀ (f g i:Nat),s.size-i≤f→s.size-i≤g→scanF f s i=scanF g s i:=by
 intro f;induction f with
 | zero =>
  intro g i hf _;cases g with
  | zero=>rfl
  | succ g=>simp only [scanF];rw [iN (by omega)]
 | succ f ih =>
  intro g i hf hg;cases g with
  | zero=>simp only [scanF];rw [iN (by omega)]
  | succ g =>
   simp only [scanF];by_cases h:i<s.size
   ·rw [iP h,iP h];by_cases h0:(rd s i).2=0
    ·rw [iP h0,iP h0]
    ·rw [iN h0,iN h0,ih g _ (by omega) (by omega)]
   ·rw [iN h,iN h]
theorem zIm {s:ByteArray} {i:Nat} (h:s.size≤i):scan s i=([],none):=by
 unfold scan;rw [show s.size-i=0 by omega];rfl
theorem zCy {s:ByteArray} {i:Nat} (h:i<s.size) (h0:(rd s i).2=0):scan s i=([],some i):=by
 unfold scan;obtain ⟨f,hf⟩:∃ f,s.size-i=f+1:=⟨s.size-i-1,by omega⟩;rw [hf];simp only [scanF];rw [iP h,iP h0]
theorem fE {s:ByteArray} {i:Nat} (h:i<s.size) (h0:(rd s i).2≠0):scan s i=((rd s i).1::(scan s (i+(rd s i).2)).1,(scan s (i+(rd s i).2)).2):=by
 unfold scan;obtain ⟨f,hf⟩:∃ f,s.size-i=f+1:=⟨s.size-i-1,by omega⟩;rw [hf];simp only [scanF];rw [iP h,iN h0,zSv s f (s.size-(i+(rd s i).2)) _ (by omega) (by omega)]
def badZ:Option Nat→Int
 | some i=>i
 | none=>-1
@[irreducible] def bad (s:ByteArray):Int:=badZ (scan s 0).2
@[irreducible] def chars (s:ByteArray):List Nat:=(scan s 0).1
theorem yAp (s:ByteArray) (C:Nat→Prop) (h1:∀ i,s.size≤i→C i) (h2:∀ i,i<s.size→(rd s i).2=0→C i)
  (h3:∀ i,i<s.size→(rd s i).2≠0→C (i+(rd s i).2)→C i):∀ i,C i:=by
 have key:∀ n i,s.size-i≤n→C i:=by
  intro n;induction n with
  | zero=>intro i hi;exact h1 i (by omega)
  | succ n ih =>
   intro i hi;by_cases h:i<s.size
   ·by_cases h0:(rd s i).2=0
    ·exact h2 i h h0
    ·exact h3 i h h0 (ih _ (by omega))
   ·exact h1 i (by omega)
 exact fun i=>key _ i (nR _)
theorem gO (s:ByteArray) (i:Nat):∀ j,(scan s i).2=some j→i≤j∧j<s.size:=by
 refine yAp s (fun i=>∀ j,(scan s i).2=some j→i≤j∧j<s.size) ?_ ?_ ?_ i
 ·intro i h j;rw [zIm h];simp
 ·intro i h h0 j;rw [zCy h h0];simp;omega
 ·intro i h h0 ih j;rw [fE h h0];intro hj;have:=ih j hj;omega
theorem yCc (s:ByteArray):bad s<0↔(scan s 0).2=none:=by
 unfold bad badZ;cases h:(scan s 0).2 with
 | none=>simp
 | some j=>simp
theorem zJc (r:Int):Lib.validRune r=may r:=by
 rw [Bool.eq_iff_iff,xL];unfold Lib.validRune;simp;omega
theorem zPr {r:Int} (h:may r=true):Utf8.encode r=form r:=by
 have hm:=(xL r).1 h;have hv:Utf8.valid r=true:=by unfold Utf8.valid;simp;omega
 obtain ⟨n,rfl⟩:=Int.eq_ofNat_of_zero_le hm.1;unfold Utf8.encode;simp only [hv,if_true,Int.toNat_natCast];by_cases h1:n<128
 ·rw [yDb h (by omega),iP h1];rfl
 ·by_cases h2:n<2048
  ·rw [yDc h (by omega) (by omega),iN h1,iP h2];unfold strOfNums;simp only [List.map_cons,List.map_nil];rw [show (192+(n:Int) / 64).toNat=192+n / 64 by omega,show (128+(n:Int) % 64).toNat=128+n % 64 by omega]
  ·by_cases h3:n<65536
   ·rw [yDd h (by omega) (by omega),iN h1,iN h2,iP h3];unfold strOfNums;simp only [List.map_cons,List.map_nil];rw [show (224+(n:Int) / 4096).toNat=224+n / 4096 by omega,show (128+(n:Int) / 64 % 64).toNat=128+n / 64 % 64 by omega,show (128+(n:Int) % 64).toNat=128+n % 64 by omega]
   ·rw [yDe h (by omega),iN h1,iN h2,iN h3];unfold strOfNums;simp only [List.map_cons,List.map_nil];rw [show (240+(n:Int) / 262144).toNat=240+n / 262144 by omega,show (128+(n:Int) / 4096 % 64).toNat=128+n / 4096 % 64 by omega,show (128+(n:Int) / 64 % 64).toNat=128+n / 64 % 64 by omega,show (128+(n:Int) % 64).toNat=128+n % 64 by omega]
end Go.Proofs.YtbjkdmbcpkopjaaGreatDoor
namespace Go.Proofs
open Go.Shelf
def Tryz.lays161_ren : Go.Shelf.Ren := ⟨fun | 161 => 176 | 231 => 205 | 227 => 206 | 233 => 207 | 235 => 208 | 228 => 222 | 197 => 135 | 151 => 223 | 260 => 165 | 152 => 230 | 137 => 166 | 119 => 233 | 224 => 184 | 225 => 183 | 217 => 182 | 266 => 211 | n => n, fun | 9 => 9 | 4 => 4 | 3 => 3 | 5 => 5 | 117 => 190 | 116 => 189 | 0 => 0 | 124 => 193 | 105 => 137 | 21 => 21 | 119 => 182 | 46 => 178 | 139 => 185 | 138 => 184 | n => n, fun | 3 => 1 | 4 => 2 | n => n⟩
theorem Tryz.lays161 : Go.Proofs.Lays.n161 Tryz.prog Tryz.lays161_ren := {
  mixed := by kernel_rfl
  f119 := Tryz.func233.trans (congrArg some (by kernel_rfl))
  f137 := Tryz.func166.trans (congrArg some (by kernel_rfl))
  f151 := Tryz.func223.trans (congrArg some (by kernel_rfl))
  f152 := Tryz.func230.trans (congrArg some (by kernel_rfl))
  f161 := Tryz.func176.trans (congrArg some (by kernel_rfl))
  f197 := Tryz.func135.trans (congrArg some (by kernel_rfl))
  f217 := Tryz.func182.trans (congrArg some (by kernel_rfl))
  f224 := Tryz.func184.trans (congrArg some (by kernel_rfl))
  f225 := Tryz.func183.trans (congrArg some (by kernel_rfl))
  f227 := Tryz.func206.trans (congrArg some (by kernel_rfl))
  f228 := Tryz.func222.trans (congrArg some (by kernel_rfl))
  f231 := Tryz.func205.trans (congrArg some (by kernel_rfl))
  f233 := Tryz.func207.trans (congrArg some (by kernel_rfl))
  f235 := Tryz.func208.trans (congrArg some (by kernel_rfl))
  f260 := Tryz.func165.trans (congrArg some (by kernel_rfl))
  f266 := Tryz.func211.trans (congrArg some (by kernel_rfl))
  t0 := Tryz.underlying0
  a0 := Tryz.isAgg0
  z0 := Tryz.sizeOf0
  v0 := Tryz.zeroValue0
  t3 := Tryz.underlying3
  a3 := Tryz.isAgg3
  z3 := Tryz.sizeOf3
  v3 := Tryz.zeroValue3
  t4 := Tryz.underlying4
  a4 := Tryz.isAgg4
  z4 := Tryz.sizeOf4
  v4 := Tryz.zeroValue4
  t5 := Tryz.underlying5
  a5 := Tryz.isAgg5
  z5 := Tryz.sizeOf5
  v5 := Tryz.zeroValue5
  t9 := Tryz.underlying9
  a9 := Tryz.isAgg9
  z9 := Tryz.sizeOf9
  v9 := Tryz.zeroValue9
  t21 := Tryz.underlying21
  a21 := Tryz.isAgg21
  z21 := Tryz.sizeOf21
  v21 := Tryz.zeroValue21
  t46 := Tryz.underlying178
  a46 := Tryz.isAgg178
  z46 := Tryz.sizeOf178
  v46 := Tryz.zeroValue178
  t105 := Tryz.underlying137
  a105 := Tryz.isAgg137
  z105 := Tryz.sizeOf137
  v105 := Tryz.zeroValue137
  t116 := Tryz.underlying189
  a116 := Tryz.isAgg189
  z116 := Tryz.sizeOf189
  t117 := Tryz.underlying190
  a117 := Tryz.isAgg190
  z117 := Tryz.sizeOf190
  v117 := Tryz.zeroValue190
  t119 := Tryz.underlying182
  a119 := Tryz.isAgg182
  z119 := Tryz.sizeOf182
  t124 := Tryz.underlying193
  a124 := Tryz.isAgg193
  z124 := Tryz.sizeOf193
  v124 := Tryz.zeroValue193
  t138 := Tryz.underlying184
  a138 := Tryz.isAgg184
  z138 := Tryz.sizeOf184
  v138 := Tryz.zeroValue184
  t139 := Tryz.underlying185
  a139 := Tryz.isAgg185
  z139 := Tryz.sizeOf185
  v139 := Tryz.zeroValue185
  g3 := by kernel_rfl
  g4 := by kernel_rfl }
open Go.RowKit in
theorem Tryz.strings_TrimLeft_set (s cutset : ByteArray) (w : World) (hcs : cutset.size < 4294967281) (hascii : ∀ (j : Nat) b, cutset.data.toList[j]? = some b → b.toNat < 128) :
    Calls Tryz.prog 176 #[.string s, .string cutset] w fun e w' => e = .returned (.string ⟨(Lib.trimLeftS s.data.toList cutset.data.toList).toArray⟩) ∧ Below w.heap.size w w' := Any.strings_TrimLeft_laid Tryz.lays161 (by kernel_rfl) s cutset w hcs hascii
def Tryz.lays119_ren : Go.Shelf.Ren := ⟨fun | 119 => 233 | n => n, fun | 21 => 21 | 4 => 4 | n => n, fun | n => n⟩
theorem Tryz.lays119 : Go.Proofs.Lays.n119 Tryz.prog Tryz.lays119_ren := {
  mixed := by kernel_rfl
  f119 := Tryz.func233.trans (congrArg some (by kernel_rfl))
  t4 := Tryz.underlying4
  a4 := Tryz.isAgg4
  z4 := Tryz.sizeOf4
  v4 := Tryz.zeroValue4
  t21 := Tryz.underlying21
  a21 := Tryz.isAgg21
  z21 := Tryz.sizeOf21
  v21 := Tryz.zeroValue21 }
theorem Tryz.utf8_ValidRune (r : Int) (w : World) :
    Calls Tryz.prog 233 #[.int .i32 r] w fun e w' => e = .returned (.bool (Lib.validRune r)) ∧ w' = w := Any.utf8_ValidRune Tryz.lays119 r w
def Tryz.lays137_ren : Go.Shelf.Ren := ⟨fun | 137 => 166 | 217 => 182 | 266 => 211 | n => n, fun | 9 => 9 | 5 => 5 | 3 => 3 | n => n, fun | n => n⟩
theorem Tryz.lays137 : Go.Proofs.Lays.n137 Tryz.prog Tryz.lays137_ren := {
  mixed := by kernel_rfl
  f137 := Tryz.func166.trans (congrArg some (by kernel_rfl))
  f217 := Tryz.func182.trans (congrArg some (by kernel_rfl))
  f266 := Tryz.func211.trans (congrArg some (by kernel_rfl))
  t3 := Tryz.underlying3
  a3 := Tryz.isAgg3
  z3 := Tryz.sizeOf3
  v3 := Tryz.zeroValue3
  t5 := Tryz.underlying5
  a5 := Tryz.isAgg5
  z5 := Tryz.sizeOf5
  v5 := Tryz.zeroValue5
  t9 := Tryz.underlying9
  a9 := Tryz.isAgg9
  z9 := Tryz.sizeOf9
  v9 := Tryz.zeroValue9 }
open Go.RowKit in
theorem Tryz.strings_IndexByte (s : ByteArray) (c : Int) (w : World) :
    Calls Tryz.prog 166 #[.string s, .int .u8 c] w fun e w' => e = .returned (.int .i64 (Lib.indexByte s.data.toList c.toNat.toUInt8)) ∧ w' = w := Any.strings_IndexByte Tryz.lays137 s c w
def Tryz.lays143_ren : Go.Shelf.Ren := ⟨fun | 143 => 119 | 219 => 142 | 217 => 182 | 225 => 183 | 224 => 184 | 267 => 185 | 266 => 211 | 314 => 212 | n => n, fun | 9 => 9 | 3 => 3 | 4 => 4 | 5 => 5 | 46 => 178 | 146 => 196 | 51 => 195 | n => n, fun | 1 => 0 | n => n⟩
theorem Tryz.lays143 : Go.Proofs.Lays.n143 Tryz.prog Tryz.lays143_ren := {
  mixed := by kernel_rfl
  f143 := Tryz.func119.trans (congrArg some (by kernel_rfl))
  f217 := Tryz.func182.trans (congrArg some (by kernel_rfl))
  f219 := Tryz.func142.trans (congrArg some (by kernel_rfl))
  f224 := Tryz.func184.trans (congrArg some (by kernel_rfl))
  f225 := Tryz.func183.trans (congrArg some (by kernel_rfl))
  f266 := Tryz.func211.trans (congrArg some (by kernel_rfl))
  f267 := Tryz.func185.trans (congrArg some (by kernel_rfl))
  f314 := Tryz.func212.trans (congrArg some (by kernel_rfl))
  t3 := Tryz.underlying3
  a3 := Tryz.isAgg3
  z3 := Tryz.sizeOf3
  v3 := Tryz.zeroValue3
  t4 := Tryz.underlying4
  a4 := Tryz.isAgg4
  z4 := Tryz.sizeOf4
  v4 := Tryz.zeroValue4
  t5 := Tryz.underlying5
  a5 := Tryz.isAgg5
  z5 := Tryz.sizeOf5
  v5 := Tryz.zeroValue5
  t9 := Tryz.underlying9
  a9 := Tryz.isAgg9
  z9 := Tryz.sizeOf9
  v9 := Tryz.zeroValue9
  t46 := Tryz.underlying178
  a46 := Tryz.isAgg178
  z46 := Tryz.sizeOf178
  v46 := Tryz.zeroValue178
  t51 := Tryz.underlying195
  a51 := Tryz.isAgg195
  z51 := Tryz.sizeOf195
  v51 := Tryz.zeroValue195
  t146 := Tryz.underlying196
  a146 := Tryz.isAgg196
  z146 := Tryz.sizeOf196
  v146 := Tryz.zeroValue196
  g1 := by kernel_rfl }
open Go.RowKit Go.Lib in
theorem Tryz.strings_Index (s sub : ByteArray) (m : Int) (w : World) (hs : s.size < 4294967281) (hm : w.cell? ⟨0, 0, none⟩ = some (.int .i64 m)) :
    Calls Tryz.prog 119 #[.string s, .string sub] w fun e w' => e = .returned (.int .i64 (Lib.index s.data.toList sub.data.toList)) ∧ w' = w := Any.strings_Index Tryz.lays143 s sub m w hs hm
def Tryz.lays144_ren : Go.Shelf.Ren := ⟨fun | 144 => 85 | 143 => 119 | 219 => 142 | 217 => 182 | 225 => 183 | 224 => 184 | 267 => 185 | 266 => 211 | 314 => 212 | n => n, fun | 9 => 9 | 4 => 4 | 3 => 3 | 5 => 5 | 46 => 178 | 146 => 196 | 51 => 195 | n => n, fun | 1 => 0 | n => n⟩
theorem Tryz.lays144 : Go.Proofs.Lays.n144 Tryz.prog Tryz.lays144_ren := {
  mixed := by kernel_rfl
  f143 := Tryz.func119.trans (congrArg some (by kernel_rfl))
  f144 := Tryz.func85.trans (congrArg some (by kernel_rfl))
  f217 := Tryz.func182.trans (congrArg some (by kernel_rfl))
  f219 := Tryz.func142.trans (congrArg some (by kernel_rfl))
  f224 := Tryz.func184.trans (congrArg some (by kernel_rfl))
  f225 := Tryz.func183.trans (congrArg some (by kernel_rfl))
  f266 := Tryz.func211.trans (congrArg some (by kernel_rfl))
  f267 := Tryz.func185.trans (congrArg some (by kernel_rfl))
  f314 := Tryz.func212.trans (congrArg some (by kernel_rfl))
  t3 := Tryz.underlying3
  a3 := Tryz.isAgg3
  z3 := Tryz.sizeOf3
  v3 := Tryz.zeroValue3
  t4 := Tryz.underlying4
  a4 := Tryz.isAgg4
  z4 := Tryz.sizeOf4
  v4 := Tryz.zeroValue4
  t5 := Tryz.underlying5
  a5 := Tryz.isAgg5
  z5 := Tryz.sizeOf5
  v5 := Tryz.zeroValue5
  t9 := Tryz.underlying9
  a9 := Tryz.isAgg9
  z9 := Tryz.sizeOf9
  v9 := Tryz.zeroValue9
  t46 := Tryz.underlying178
  a46 := Tryz.isAgg178
  z46 := Tryz.sizeOf178
  v46 := Tryz.zeroValue178
  t51 := Tryz.underlying195
  a51 := Tryz.isAgg195
  z51 := Tryz.sizeOf195
  v51 := Tryz.zeroValue195
  t146 := Tryz.underlying196
  a146 := Tryz.isAgg196
  z146 := Tryz.sizeOf196
  v146 := Tryz.zeroValue196
  g1 := by kernel_rfl }
open Go.RowKit Go.Lib in
theorem Tryz.strings_Contains_one (s : ByteArray) (c : UInt8) (w : World) :
    Calls Tryz.prog 85 #[.string s, .string ⟨#[c]⟩] w fun e w' => e = .returned (.bool (decide (0 ≤ Lib.indexByte s.data.toList c))) ∧ w' = w := Any.strings_Contains_one Tryz.lays144 s c w
open Go.RowKit Go.Lib in
theorem Tryz.strings_Contains (s sub : ByteArray) (m : Int) (w : World) (hs : s.size < 4294967281) (hm : w.cell? ⟨0, 0, none⟩ = some (.int .i64 m)) :
    Calls Tryz.prog 85 #[.string s, .string sub] w fun e w' => e = .returned (.bool (Lib.contains s.data.toList sub.data.toList)) ∧ w' = w := Any.strings_Contains Tryz.lays144 s sub m w hs hm
def Tryz.lays99_ren : Go.Shelf.Ren := ⟨fun | 99 => 177 | 206 => 209 | n => n, fun | 9 => 9 | 4 => 4 | 3 => 3 | n => n, fun | n => n⟩
theorem Tryz.lays99 : Go.Proofs.Lays.n99 Tryz.prog Tryz.lays99_ren := {
  mixed := by kernel_rfl
  f99 := Tryz.func177.trans (congrArg some (by kernel_rfl))
  f206 := Tryz.func209.trans (congrArg some (by kernel_rfl))
  t3 := Tryz.underlying3
  a3 := Tryz.isAgg3
  z3 := Tryz.sizeOf3
  v3 := Tryz.zeroValue3
  t4 := Tryz.underlying4
  a4 := Tryz.isAgg4
  z4 := Tryz.sizeOf4
  v4 := Tryz.zeroValue4
  t9 := Tryz.underlying9
  a9 := Tryz.isAgg9
  z9 := Tryz.sizeOf9
  v9 := Tryz.zeroValue9 }
open Go.RowKit Go.Lib in
theorem Tryz.strings_HasPrefix (s p : ByteArray) (w : World) :
    Calls Tryz.prog 177 #[.string s, .string p] w fun e w' => e = .returned (.bool (Lib.hasPrefix s.data.toList p.data.toList)) ∧ w' = w := Any.strings_HasPrefix Tryz.lays99 s p w
def Tryz.lays100_ren : Go.Shelf.Ren := ⟨fun | 100 => 138 | 207 => 172 | n => n, fun | 9 => 9 | 4 => 4 | 3 => 3 | n => n, fun | n => n⟩
theorem Tryz.lays100 : Go.Proofs.Lays.n100 Tryz.prog Tryz.lays100_ren := {
  mixed := by kernel_rfl
  f100 := Tryz.func138.trans (congrArg some (by kernel_rfl))
  f207 := Tryz.func172.trans (congrArg some (by kernel_rfl))
  t3 := Tryz.underlying3
  a3 := Tryz.isAgg3
  z3 := Tryz.sizeOf3
  v3 := Tryz.zeroValue3
  t4 := Tryz.underlying4
  a4 := Tryz.isAgg4
  z4 := Tryz.sizeOf4
  v4 := Tryz.zeroValue4
  t9 := Tryz.underlying9
  a9 := Tryz.isAgg9
  z9 := Tryz.sizeOf9
  v9 := Tryz.zeroValue9 }
open Go.RowKit Go.Lib in
theorem Tryz.strings_HasSuffix (s p : ByteArray) (w : World) (hs : s.size ≤ 9223372036854775807) :
    Calls Tryz.prog 138 #[.string s, .string p] w fun e w' => e = .returned (.bool (Lib.hasSuffix s.data.toList p.data.toList)) ∧ w' = w := Any.strings_HasSuffix Tryz.lays100 s p w hs
def Tryz.lays101_ren : Go.Shelf.Ren := ⟨fun | 101 => 203 | 208 => 221 | 206 => 209 | n => n, fun | 9 => 9 | 4 => 4 | 3 => 3 | n => n, fun | n => n⟩
theorem Tryz.lays101 : Go.Proofs.Lays.n101 Tryz.prog Tryz.lays101_ren := {
  mixed := by kernel_rfl
  f101 := Tryz.func203.trans (congrArg some (by kernel_rfl))
  f206 := Tryz.func209.trans (congrArg some (by kernel_rfl))
  f208 := Tryz.func221.trans (congrArg some (by kernel_rfl))
  t3 := Tryz.underlying3
  a3 := Tryz.isAgg3
  z3 := Tryz.sizeOf3
  v3 := Tryz.zeroValue3
  t4 := Tryz.underlying4
  a4 := Tryz.isAgg4
  z4 := Tryz.sizeOf4
  v4 := Tryz.zeroValue4
  t9 := Tryz.underlying9
  a9 := Tryz.isAgg9
  z9 := Tryz.sizeOf9
  v9 := Tryz.zeroValue9 }
open Go.RowKit Go.Lib in
theorem Tryz.strings_TrimPrefix (s p : ByteArray) (w : World) :
    Calls Tryz.prog 203 #[.string s, .string p] w fun e w' => e = .returned (.string ⟨(Lib.trimPrefix s.data.toList p.data.toList).toArray⟩) ∧ w' = w := Any.strings_TrimPrefix Tryz.lays101 s p w
def Tryz.lays155_ren : Go.Shelf.Ren := ⟨fun | 155 => 167 | 154 => 200 | 138 => 215 | 165 => 216 | 143 => 119 | 166 => 217 | 197 => 135 | 169 => 218 | 195 => 224 | 218 => 225 | 240 => 226 | 241 => 227 | 219 => 142 | 260 => 165 | 276 => 231 | 277 => 232 | 217 => 182 | 225 => 183 | 224 => 184 | 267 => 185 | 266 => 211 | 314 => 212 | n => n, fun | 9 => 9 | 3 => 3 | 4 => 4 | 72 => 200 | 0 => 0 | 76 => 204 | 105 => 137 | 21 => 21 | 5 => 5 | 70 => 198 | 20 => 20 | 37 => 105 | 75 => 203 | 127 => 210 | 164 => 214 | 46 => 178 | 119 => 182 | 139 => 185 | 138 => 184 | 146 => 196 | 51 => 195 | 80 => 117 | n => n, fun | 1 => 0 | 3 => 1 | 4 => 2 | n => n⟩
theorem Tryz.lays155 : Go.Proofs.Lays.n155 Tryz.prog Tryz.lays155_ren := {
  mixed := by kernel_rfl
  f138 := Tryz.func215.trans (congrArg some (by kernel_rfl))
  f143 := Tryz.func119.trans (congrArg some (by kernel_rfl))
  f154 := Tryz.func200.trans (congrArg some (by kernel_rfl))
  f155 := Tryz.func167.trans (congrArg some (by kernel_rfl))
  f165 := Tryz.func216.trans (congrArg some (by kernel_rfl))
  f166 := Tryz.func217.trans (congrArg some (by kernel_rfl))
  f169 := Tryz.func218.trans (congrArg some (by kernel_rfl))
  f195 := Tryz.func224.trans (congrArg some (by kernel_rfl))
  f197 := Tryz.func135.trans (congrArg some (by kernel_rfl))
  f217 := Tryz.func182.trans (congrArg some (by kernel_rfl))
  f218 := Tryz.func225.trans (congrArg some (by kernel_rfl))
  f219 := Tryz.func142.trans (congrArg some (by kernel_rfl))
  f224 := Tryz.func184.trans (congrArg some (by kernel_rfl))
  f225 := Tryz.func183.trans (congrArg some (by kernel_rfl))
  f240 := Tryz.func226.trans (congrArg some (by kernel_rfl))
  f241 := Tryz.func227.trans (congrArg some (by kernel_rfl))
  f260 := Tryz.func165.trans (congrArg some (by kernel_rfl))
  f266 := Tryz.func211.trans (congrArg some (by kernel_rfl))
  f267 := Tryz.func185.trans (congrArg some (by kernel_rfl))
  f276 := Tryz.func231.trans (congrArg some (by kernel_rfl))
  f277 := Tryz.func232.trans (congrArg some (by kernel_rfl))
  f314 := Tryz.func212.trans (congrArg some (by kernel_rfl))
  t0 := Tryz.underlying0
  a0 := Tryz.isAgg0
  z0 := Tryz.sizeOf0
  v0 := Tryz.zeroValue0
  t3 := Tryz.underlying3
  a3 := Tryz.isAgg3
  z3 := Tryz.sizeOf3
  v3 := Tryz.zeroValue3
  t4 := Tryz.underlying4
  a4 := Tryz.isAgg4
  z4 := Tryz.sizeOf4
  v4 := Tryz.zeroValue4
  t5 := Tryz.underlying5
  a5 := Tryz.isAgg5
  z5 := Tryz.sizeOf5
  v5 := Tryz.zeroValue5
  t9 := Tryz.underlying9
  a9 := Tryz.isAgg9
  z9 := Tryz.sizeOf9
  v9 := Tryz.zeroValue9
  t20 := Tryz.underlying20
  a20 := Tryz.isAgg20
  z20 := Tryz.sizeOf20
  v20 := Tryz.zeroValue20
  t21 := Tryz.underlying21
  a21 := Tryz.isAgg21
  z21 := Tryz.sizeOf21
  v21 := Tryz.zeroValue21
  t37 := Tryz.underlying105
  a37 := Tryz.isAgg105
  z37 := Tryz.sizeOf105
  v37 := Tryz.zeroValue105
  t46 := Tryz.underlying178
  a46 := Tryz.isAgg178
  z46 := Tryz.sizeOf178
  v46 := Tryz.zeroValue178
  t51 := Tryz.underlying195
  a51 := Tryz.isAgg195
  z51 := Tryz.sizeOf195
  v51 := Tryz.zeroValue195
  t70 := Tryz.underlying198
  a70 := Tryz.isAgg198
  z70 := Tryz.sizeOf198
  v70 := Tryz.zeroValue198
  t72 := Tryz.underlying200
  a72 := Tryz.isAgg200
  z72 := Tryz.sizeOf200
  v72 := Tryz.zeroValue200
  t75 := Tryz.underlying203
  a75 := Tryz.isAgg203
  z75 := Tryz.sizeOf203
  v75 := Tryz.zeroValue203
  t76 := Tryz.underlying204
  a76 := Tryz.isAgg204
  z76 := Tryz.sizeOf204
  v76 := Tryz.zeroValue204
  t105 := Tryz.underlying137
  a105 := Tryz.isAgg137
  z105 := Tryz.sizeOf137
  v105 := Tryz.zeroValue137
  t119 := Tryz.underlying182
  a119 := Tryz.isAgg182
  z119 := Tryz.sizeOf182
  t127 := Tryz.underlying210
  a127 := Tryz.isAgg210
  z127 := Tryz.sizeOf210
  v127 := Tryz.zeroValue210
  t138 := Tryz.underlying184
  a138 := Tryz.isAgg184
  z138 := Tryz.sizeOf184
  v138 := Tryz.zeroValue184
  t139 := Tryz.underlying185
  a139 := Tryz.isAgg185
  z139 := Tryz.sizeOf185
  v139 := Tryz.zeroValue185
  t146 := Tryz.underlying196
  a146 := Tryz.isAgg196
  z146 := Tryz.sizeOf196
  v146 := Tryz.zeroValue196
  t164 := Tryz.underlying214
  a164 := Tryz.isAgg214
  z164 := Tryz.sizeOf214
  v164 := Tryz.zeroValue214
  g1 := by kernel_rfl
  g3 := by kernel_rfl
  g4 := by kernel_rfl }
theorem Tryz.Builder_Extra_155 : Builder.Extra Tryz.prog Tryz.lays155_ren := {
  sizeBuilder := by kernel_rfl
  liesBuilder := by kernel_rfl
  t5 := Tryz.underlying5
  a5 := Tryz.isAgg5
  z5 := Tryz.sizeOf5
  v5 := Tryz.zeroValue5
  infoByte := by kernel_rfl
  cellsByte := by kernel_rfl
  sizeByte := by kernel_rfl
  neB5 := by decide }
open Go.RowKit Go.Lib in
theorem Tryz.strings_ReplaceAll (s old new : ByteArray) (m : Int) (w : World) (hs : s.size < 4294967281) (hm : w.cell? ⟨0, 0, none⟩ = some (.int .i64 m)) (h1 : 1 ≤ old.size) (hlen : s.size + Lib.countB s old * new.size ≤ 140737488355328) :
    Calls Tryz.prog 167 #[.string s, .string old, .string new] w fun e w' =>
      e = .returned (.string ⟨(Lib.replaceAll s.data.toList old.data.toList new.data.toList).toArray⟩) ∧ Below w.heap.size w w' := Any.strings_ReplaceAll Tryz.lays155 Tryz.Builder_Extra_155 s old new m w hs hm h1 hlen
def Tryz.laysM155_ren : Go.Shelf.Ren := ⟨fun | 155 => 167 | 154 => 200 | 138 => 215 | 165 => 216 | 143 => 119 | 166 => 217 | 197 => 135 | 169 => 218 | 195 => 224 | 218 => 225 | 240 => 226 | 241 => 227 | 219 => 142 | 260 => 165 | 276 => 231 | 277 => 232 | 217 => 182 | 225 => 183 | 224 => 184 | 267 => 185 | 266 => 211 | 314 => 212 | n => n, fun | 9 => 9 | 3 => 3 | 4 => 4 | 72 => 200 | 0 => 0 | 76 => 204 | 105 => 137 | 21 => 21 | 5 => 5 | 70 => 198 | 20 => 20 | 37 => 105 | 75 => 203 | 127 => 210 | 164 => 214 | 46 => 178 | 119 => 182 | 139 => 185 | 138 => 184 | 146 => 196 | 51 => 195 | 80 => 117 | n => n, fun | 1 => 0 | 3 => 1 | 4 => 2 | n => n⟩
theorem Tryz.laysM155 : Go.Proofs.LaysM.n155 Tryz.prog Tryz.laysM155_ren := {
  mixed := by kernel_rfl
  f138 := Tryz.func215.trans (congrArg some (by kernel_rfl))
  f143 := Tryz.func119.trans (congrArg some (by kernel_rfl))
  f154 := Tryz.func200.trans (congrArg some (by kernel_rfl))
  f155 := Tryz.func167.trans (congrArg some (by kernel_rfl))
  f165 := Tryz.func216.trans (congrArg some (by kernel_rfl))
  f166 := Tryz.func217.trans (congrArg some (by kernel_rfl))
  f169 := Tryz.func218.trans (congrArg some (by kernel_rfl))
  f195 := Tryz.func224.trans (congrArg some (by kernel_rfl))
  f197 := Tryz.func135.trans (congrArg some (by kernel_rfl))
  f217 := Tryz.func182.trans (congrArg some (by kernel_rfl))
  f218 := Tryz.func225.trans (congrArg some (by kernel_rfl))
  f219 := Tryz.func142.trans (congrArg some (by kernel_rfl))
  f224 := Tryz.func184.trans (congrArg some (by kernel_rfl))
  f225 := Tryz.func183.trans (congrArg some (by kernel_rfl))
  f240 := Tryz.func226.trans (congrArg some (by kernel_rfl))
  f241 := Tryz.func227.trans (congrArg some (by kernel_rfl))
  f260 := Tryz.func165.trans (congrArg some (by kernel_rfl))
  f266 := Tryz.func211.trans (congrArg some (by kernel_rfl))
  f267 := Tryz.func185.trans (congrArg some (by kernel_rfl))
  f276 := Tryz.func231.trans (congrArg some (by kernel_rfl))
  f277 := Tryz.func232.trans (congrArg some (by kernel_rfl))
  f314 := Tryz.func212.trans (congrArg some (by kernel_rfl))
  t0 := Tryz.underlying0
  a0 := Tryz.isAgg0
  z0 := Tryz.sizeOf0
  v0 := Tryz.zeroValue0
  t3 := Tryz.underlying3
  a3 := Tryz.isAgg3
  z3 := Tryz.sizeOf3
  v3 := Tryz.zeroValue3
  t4 := Tryz.underlying4
  a4 := Tryz.isAgg4
  z4 := Tryz.sizeOf4
  v4 := Tryz.zeroValue4
  t5 := Tryz.underlying5
  a5 := Tryz.isAgg5
  z5 := Tryz.sizeOf5
  v5 := Tryz.zeroValue5
  t9 := Tryz.underlying9
  a9 := Tryz.isAgg9
  z9 := Tryz.sizeOf9
  v9 := Tryz.zeroValue9
  t20 := Tryz.underlying20
  a20 := Tryz.isAgg20
  z20 := Tryz.sizeOf20
  v20 := Tryz.zeroValue20
  t21 := Tryz.underlying21
  a21 := Tryz.isAgg21
  z21 := Tryz.sizeOf21
  v21 := Tryz.zeroValue21
  t37 := Tryz.underlying105
  a37 := Tryz.isAgg105
  z37 := Tryz.sizeOf105
  v37 := Tryz.zeroValue105
  t46 := Tryz.underlying178
  a46 := Tryz.isAgg178
  z46 := Tryz.sizeOf178
  v46 := Tryz.zeroValue178
  t51 := Tryz.underlying195
  a51 := Tryz.isAgg195
  z51 := Tryz.sizeOf195
  v51 := Tryz.zeroValue195
  t70 := Tryz.underlying198
  a70 := Tryz.isAgg198
  z70 := Tryz.sizeOf198
  v70 := Tryz.zeroValue198
  t72 := Tryz.underlying200
  a72 := Tryz.isAgg200
  z72 := Tryz.sizeOf200
  v72 := Tryz.zeroValue200
  t75 := Tryz.underlying203
  a75 := Tryz.isAgg203
  z75 := Tryz.sizeOf203
  v75 := Tryz.zeroValue203
  t76 := Tryz.underlying204
  a76 := Tryz.isAgg204
  z76 := Tryz.sizeOf204
  v76 := Tryz.zeroValue204
  t105 := Tryz.underlying137
  a105 := Tryz.isAgg137
  z105 := Tryz.sizeOf137
  v105 := Tryz.zeroValue137
  t119 := Tryz.underlying182
  a119 := Tryz.isAgg182
  z119 := Tryz.sizeOf182
  t127 := Tryz.underlying210
  a127 := Tryz.isAgg210
  z127 := Tryz.sizeOf210
  v127 := Tryz.zeroValue210
  t138 := Tryz.underlying184
  a138 := Tryz.isAgg184
  z138 := Tryz.sizeOf184
  v138 := Tryz.zeroValue184
  t139 := Tryz.underlying185
  a139 := Tryz.isAgg185
  z139 := Tryz.sizeOf185
  v139 := Tryz.zeroValue185
  t146 := Tryz.underlying196
  a146 := Tryz.isAgg196
  z146 := Tryz.sizeOf196
  v146 := Tryz.zeroValue196
  t164 := Tryz.underlying214
  a164 := Tryz.isAgg214
  z164 := Tryz.sizeOf214
  v164 := Tryz.zeroValue214
  g1 := by kernel_rfl
  g3 := by kernel_rfl
  g4 := by kernel_rfl
  t80 := Tryz.underlying117
  a80 := Tryz.isAgg117
  z80 := Tryz.sizeOf117
  v80 := Tryz.zeroValue117
  i0 := by kernel_rfl
  i3 := by kernel_rfl
  i4 := by kernel_rfl
  i5 := by kernel_rfl
  i9 := by kernel_rfl
  i20 := by kernel_rfl
  i21 := by kernel_rfl
  i37 := by kernel_rfl
  i46 := by kernel_rfl
  i51 := by kernel_rfl
  i70 := by kernel_rfl
  i72 := by kernel_rfl
  i75 := by kernel_rfl
  i76 := by kernel_rfl
  i80 := by kernel_rfl
  i105 := by kernel_rfl
  i127 := by kernel_rfl
  i138 := by kernel_rfl
  i139 := by kernel_rfl
  i146 := by kernel_rfl
  i164 := by kernel_rfl
  m1 := by kernel_rfl
  s1_3 := fun w h => Go.Proofs.cell_of_shapedOpen_int (zero := #[.int .i64 0]) (t := 3) h (of_decide_eq_true (by kernel_rfl)) (by kernel_rfl) rfl (by kernel_rfl) (by kernel_rfl) Tryz.underlying3
  m3 := by kernel_rfl
  m4 := by kernel_rfl }
def Tryz.lays197_ren : Go.Shelf.Ren := ⟨fun | 197 => 135 | 260 => 165 | n => n, fun | 9 => 9 | 21 => 21 | 3 => 3 | 4 => 4 | 5 => 5 | 105 => 137 | 119 => 182 | 0 => 0 | 46 => 178 | 139 => 185 | 138 => 184 | n => n, fun | 3 => 1 | 4 => 2 | n => n⟩
theorem Tryz.lays197 : Go.Proofs.Lays.n197 Tryz.prog Tryz.lays197_ren := {
  mixed := by kernel_rfl
  f197 := Tryz.func135.trans (congrArg some (by kernel_rfl))
  f260 := Tryz.func165.trans (congrArg some (by kernel_rfl))
  t0 := Tryz.underlying0
  a0 := Tryz.isAgg0
  z0 := Tryz.sizeOf0
  v0 := Tryz.zeroValue0
  t3 := Tryz.underlying3
  a3 := Tryz.isAgg3
  z3 := Tryz.sizeOf3
  v3 := Tryz.zeroValue3
  t4 := Tryz.underlying4
  a4 := Tryz.isAgg4
  z4 := Tryz.sizeOf4
  v4 := Tryz.zeroValue4
  t5 := Tryz.underlying5
  a5 := Tryz.isAgg5
  z5 := Tryz.sizeOf5
  v5 := Tryz.zeroValue5
  t9 := Tryz.underlying9
  a9 := Tryz.isAgg9
  z9 := Tryz.sizeOf9
  v9 := Tryz.zeroValue9
  t21 := Tryz.underlying21
  a21 := Tryz.isAgg21
  z21 := Tryz.sizeOf21
  v21 := Tryz.zeroValue21
  t46 := Tryz.underlying178
  a46 := Tryz.isAgg178
  z46 := Tryz.sizeOf178
  v46 := Tryz.zeroValue178
  t105 := Tryz.underlying137
  a105 := Tryz.isAgg137
  z105 := Tryz.sizeOf137
  v105 := Tryz.zeroValue137
  t119 := Tryz.underlying182
  a119 := Tryz.isAgg182
  z119 := Tryz.sizeOf182
  t138 := Tryz.underlying184
  a138 := Tryz.isAgg184
  z138 := Tryz.sizeOf184
  v138 := Tryz.zeroValue184
  t139 := Tryz.underlying185
  a139 := Tryz.isAgg185
  z139 := Tryz.sizeOf185
  v139 := Tryz.zeroValue185
  g3 := by kernel_rfl
  g4 := by kernel_rfl }
open Go.RowKit Go.Lib in
theorem Tryz.utf8_DecodeRuneInString (s : ByteArray) (w : World) (hT : Lib.Utf8Tabs 1 2 w) :
    Calls Tryz.prog 135 #[.string s] w fun e w' => e = .returned (.tuple #[.int .i32 (Lib.decodeGo s).1, .int .i64 (Lib.decodeGo s).2]) ∧ Below w.heap.size w w' := Any.utf8_DecodeRuneInString Tryz.lays197 s w hT
end Go.Proofs
namespace Go.Proofs.YtbjkdmbcpkopjaaGreatDoor
open Go.RowKit

def Tabs (w:World):Prop:=Lib.Utf8Tabs 1 2 w∧1<w.heap.size∧2<w.heap.size
theorem Tabs.below {w w':World} (h:Tabs w) (hb:Below w.heap.size w w'):Tabs w':=by
 obtain ⟨⟨h1,h2⟩,h3,h4⟩:=h;refine ⟨⟨fun c hc=>?_,fun i hi=>⟨?_,?_⟩⟩,Nat.lt_of_lt_of_le h3 hb.size,Nat.lt_of_lt_of_le h4 hb.size⟩
 ·rw [hb.cell (p:=⟨_,c,none⟩) h3];exact h1 c hc
 ·rw [hb.cell (p:=⟨_,2*i,none⟩) h4];exact (h2 i hi).1
 ·rw [hb.cell (p:=⟨_,2*i+1,none⟩) h4];exact (h2 i hi).2
theorem zHu (s:ByteArray) (i:Nat):Utf8.decode (s.extract i s.size) 0=Utf8.decode s i:=by
 rw [Lib.decode_at,Lib.decode_at];have hz:(s.extract i s.size).size=s.size-i:=by simp
 have g:∀ k,(s.extract i s.size).get! k=s.get! (i+k):=fun k=>by
  by_cases h:i+k<s.size
  ·exact get!_extract s i s.size k h (nR _)
  ·rw [get!_ge _ _ (by rw [hz];omega),get!_ge _ _ (by omega)]
 simp only [g,hz,Nat.zero_add,Nat.add_zero,Nat.sub_zero]

theorem gC (s:ByteArray) (at':Int) (w:World) (hT:Tabs w) :
  Calls Tryz.prog 108 #[.string s,.int .i64 at'] w fun e w'=>e=.returned (.tuple #[.int .i32 (rdI s at').1,.int .i64 (rdI s at').2])∧Below w.heap.size w w':=by
 by_cases hi:0≤at'∧at'<s.size
 ·obtain ⟨i,rfl⟩:=Int.eq_ofNat_of_zero_le hi.1;have hi2:i<s.size:=by omega
  clear hi;have C:∀ w,Tabs w→_:=fun w hT=>Tryz.utf8_DecodeRuneInString (s.extract i s.size) w hT.1
  have hd:Lib.decodeGo (s.extract i s.size)=Utf8.decode s i:=by
   unfold Lib.decodeGo;rw [iN (by simp;omega),zHu]
  rw [hd] at C;have C':=Hd C;have hr:=fY hi2;rw [← zBi] at hr;clear C hd;generalize Utf8.decode s i=d at *;obtain ⟨d1,d2⟩:=d;have HR:=Hd hr;clear hr;go_enter Tryz.func108,Tryz.ntmps108;go_wp2_with (go_at_call 135;refine (C'.out _ hT).mono ?_;rintro e w' ⟨rfl,hb'⟩);all_goals go_ret2
  all_goals (refine ⟨zFv ?_ ?_,hb'⟩ <;> (have hr:=HR.out;rw [hr];clear HR;split <;> first | rfl | omega))
 ·have HR:=Hd (show rdI s at'=(0,0) by
   by_cases h:at'<0
   ·exact yCa h
   ·obtain ⟨i,rfl⟩:=Int.eq_ofNat_of_zero_le (by omega:0≤at');rw [zBi,zSu (by omega)])
  by_cases hn:at'<0
  ·clear hi;go_enter Tryz.func108,Tryz.ntmps108;go_wp2_with fail
   go_ret2
   exact ⟨zFv (by rw [HR.out];rfl) (by rw [HR.out];rfl),bR _ _⟩
  ·have hge:s.size≤at':=by omega
   clear hi;go_enter Tryz.func108,Tryz.ntmps108;go_wp2_with fail
   go_ret2
   exact ⟨zFv (by rw [HR.out];rfl) (by rw [HR.out];rfl),bR _ _⟩

theorem zSb (r:Int) (w:World) :
  Calls Tryz.prog 228 #[.int .i32 r] w fun e w'=>e=.returned (.string (form r))∧w=w':=by
 have C:∀ w,_:=fun w=>Tryz.utf8_ValidRune r w
 rw [zJc] at C;cases hm:may r
 ·rw [hm] at C;have C':=Hd C;have HF:=Hd (zKm hm);clear C hm;go_enter Tryz.func228,Tryz.ntmps228;go_wp2_with (go_at_call 233;refine (C'.out _).mono ?_;rintro e w' ⟨rfl,rfl⟩);go_ret;exact ⟨zSz (by rw [HF.out];rfl),rfl⟩
 ·rw [hm] at C;have C':=Hd C;have HF:=Hd (zPr hm);clear C hm;go_enter Tryz.func228,Tryz.ntmps228;go_wp2_with (go_at_call 233;refine (C'.out _).mono ?_;rintro e w' ⟨rfl,rfl⟩);go_ret;exact ⟨zSz (by rw [HF.out]),rfl⟩

set_option maxHeartbeats 1000000 in
theorem zKe (s:ByteArray) (w:World) (hT:Tabs w) :
  Calls Tryz.prog 70 #[.string s] w fun e w'=>e=.returned (.int .i64 (bad s))∧Below w.heap.size w w':=by
 go_enter Tryz.func70,Tryz.ntmps70;go_wp2_with fail;go_loopw [] (fun wr=>∃ pos,wr.heap[w.heap.size]?=some (.stringIter s pos)∧pos≤s.size∧bad s=badZ (scan s pos).2∧Below w.heap.size w wr) (fun wr=>iterLeft w.heap.size wr)
 case atStart=>exact ⟨0,World.iter_heap _ _ _,Nat.zero_le _,by unfold bad;rfl,(bR _ _).alloc (nR _) _⟩
 case round =>
  obtain ⟨pos,hk,hpos,hbad,hb⟩:=hrel;have HB:=Hd hbad;have HK:=Hd hk;have HT:=Hd (hT.below hb);have hz:=zG hk;clear hbad;by_cases hp:pos<s.size
  ·have hn:=fun ty=>Lib.run_next_any_at (P:=Tryz.prog) wr w.heap.size s pos ty hk hp
   have hb2:Below w.heap.size w (wr.iterAt w.heap.size s (pos+(Utf8.decode s pos).2)):=Lib.below_iterAt hb (nR _) _ _;have hk2:=Lib.iterAt_heap wr w.heap.size s pos (pos+(Utf8.decode s pos).2) hk;have hT2:=hT.below hb2;generalize hW:wr.iterAt w.heap.size s (pos+(Utf8.decode s pos).2)=W at *;clear hk hW;rcases kJ s pos hp with ⟨h1,h2⟩ | ⟨h1,h2,h3,h4,h5,h6⟩
   ·rw [h2] at hn;simp only [] at hn;have C:=fun w hT=>gC s pos w hT;rw [zBi,h1] at C;have C':=Hd C;have HR:=Hd (zCy hp (by rw [h1]));clear h1 h2 C;go_wp2_with (go_at_call 108;refine (C'.out _ hT2).mono ?_;rintro e w' ⟨rfl,hb'⟩);go_ret;exact ⟨zFg (by rw [HB.out,HR.out];rfl),hb2.trans (hb'.mono hb2.size)⟩
   ·have HR:=Hd (fE hp (by omega));rw [h6] at hn hk2;have C:=fun w hT=>gC s pos w hT;rw [zBi] at C;generalize rd s pos=d at *;obtain ⟨d1,d2⟩:=d;simp only [] at *;have C':=Hd C;have h8:((d2:Int) == 0)=false:=by simp;omega
    have hp2:=Hd h3;clear C h4 h5 h6 h3;by_cases h9:d1=65533
    ·subst h9;go_wp2_with (go_at_call 108;refine (C'.out _ hT2).mono ?_;rintro e w' ⟨rfl,hb'⟩);have hb3:=hb2.trans (hb'.mono hb2.size);have hk3:=keeps hb' hk2;go_roundw
     case rel=>exact ⟨pos+d2,hk3,hp2.out,by rw [HB.out,HR.out],hb3⟩
     case measure=>rw [zX hk3,zX HK.out];have:=hp2.out;omega
    ·have h10:((d1:Int) != 65533)=true:=by rw [bne_iff_ne];omega
     have H9:=Hd h9;clear h9;go_wp2_with fail;go_roundw
     case rel=>exact ⟨pos+d2,hk2,hp2.out,by rw [HB.out,HR.out],hb2⟩
     case measure=>rw [zX hk2,zX HK.out];have:=hp2.out;omega
  ·have hn:=fun ty=>Lib.run_next_end_at (P:=Tryz.prog) wr w.heap.size s pos ty hk hp
   have HR:=Hd (zIm (s:=s) (i:=pos) (by omega));clear hk;go_wp2_with fail;go_ret;exact ⟨zFg (by rw [HB.out,HR.out];rfl),hb⟩

theorem zZu {s:ByteArray} {i:Nat} (h:i<s.size) (hn:(scan s i).2=none):rd s i≠(0,0):=by
 intro h0;rw [zCy h (by rw [h0])] at hn;cases hn
end Go.Proofs.YtbjkdmbcpkopjaaGreatDoor
