/- Layer 15 in plain Lean: brackets where a part is loose. -/
import Derived.Test.YtfalelkfhandfaaGreatDoorCheckBMs
namespace Go.Proofs.YtfalelkfhandfaaGreatDoor
set_option linter.all false

def wL1:List (List UInt8):=[[124,124]]
def wL2:List (List UInt8):=[[38,38]]
def wL3:List (List UInt8):=[[61,61],[33,61],[60],[60,61],[62],[62,61]]
def wL4:List (List UInt8):=[[43],[45],[124],[94]]
def wL5:List (List UInt8):=[[42],[47],[37],[60,60],[62,62],[38],[38,94]]
def lvW (w:ByteArray):Nat:=if w.toList∈wL1 then 1 else if w.toList∈wL2 then 2 else if w.toList∈wL3 then 3 else if w.toList∈wL4 then 4 else if w.toList∈wL5 then 5 else 1
def yL (p:Prt):Nat:=if p.1=36∨p.1=35 then 6 else if p.1=37 then lvW p.2.2 else 7
def looseZ (p:Prt) (nth:Nat) (kid:Prt):Bool :=
 if p.1=37 then (decide (nth=0)&&decide (yL kid<yL p)) || (decide (nth=1)&&decide (yL kid≤yL p))
 else if p.1=35∨p.1=36 then decide (yL kid<6)
 else if 29≤p.1∧p.1≤34 then decide (nth=0)&&decide (yL kid<7)
 else if p.1=61 then decide (nth=2)&&decide (yL kid<7)
 else false
def xD (p:Prt) (nth:Nat):Nat :=
 if p.1=37 then (if nth=0 then yL p else if nth=1 then yL p+1 else 0)
 else if p.1=35∨p.1=36 then 6
 else if 29≤p.1∧p.1≤34 then (if nth=0 then 7 else 0)
 else if p.1=61 then (if nth=2 then 7 else 0)
 else 0
theorem zNf (p:Prt) (nth:Nat) (kid:Prt):decide (yL kid<xD p nth)=looseZ p nth kid:=by
 unfold xD looseZ
 by_cases h1:p.1=37
 ·rw [if_pos h1,if_pos h1]
  by_cases h2:nth=0
  ·subst h2;simp
  ·rw [if_neg h2]
   by_cases h3:nth=1
   ·subst h3;simp;omega
   ·rw [if_neg h3];simp [h2,h3]
 ·rw [if_neg h1,if_neg h1]
  by_cases h2:p.1=35∨p.1=36
  ·rw [if_pos h2,if_pos h2]
  ·rw [if_neg h2,if_neg h2]
   by_cases h3:29≤p.1∧p.1≤34
   ·rw [if_pos h3,if_pos h3]
    by_cases h4:nth=0
    ·simp [h4]
    ·simp [h4]
   ·rw [if_neg h3,if_neg h3]
    by_cases h4:p.1=61
    ·rw [if_pos h4,if_pos h4]
     by_cases h5:nth=2
     ·simp [h5]
     ·simp [h5]
    ·rw [if_neg h4,if_neg h4];simp
abbrev PN:=Prt×Int
def paren:PN:=((28,1,ByteArray.empty),-1)
def brk (p:Prt) (nth:Nat) (kid:Prt):List PN:=if looseZ p nth kid then [paren] else []
section
variable (l:List Prt) (from':List Int)
def pnAt (i:Nat):PN:=(l.getD i (0,0,ByteArray.empty),from'.getD i 0)
def zR (i:Nat):Prt:=l.getD i (0,0,ByteArray.empty)
mutual
def gPart:Nat→Nat→List PN
 | 0,_=>[]
 | n+1,i=>pnAt l from' i::gKids n (zR l i) 0 (i+1) (zC l i)
def gKids:Nat→Prt→Nat→Nat→Nat→List PN
 | 0,_,_,_,_=>[]
 | n+1,p,nth,k,stop=>if k=stop then [] else brk p nth (zR l k)++(gPart n k++gKids n p (nth+1) (zC l k) stop)
end
def looseAt (j:Nat):Bool:=match upN l j with
 | .ofNat p=>looseZ (zR l p) ((kidsB l p).idxOf j) (zR l j)
 | .negSucc _=>false
def gOne (j:Nat):List PN:=(if looseAt l j then [paren] else [])++[pnAt l from' j]
def gSeg (a b:Nat):List PN:=(List.range' a (b-a)).flatMap (gOne l from')
theorem zCy {a b c:Nat} (h1:a≤b) (h2:b≤c):gSeg l from' a c=gSeg l from' a b++gSeg l from' b c:=by
 unfold gSeg
 rw [← List.flatMap_append,show c-a=(b-a)+(c-b) by omega]
 congr 1
 have:=List.range'_append (s:=a) (m:=b-a) (n:=c-b) (step:=1)
 rw [Nat.one_mul,show a+(b-a)=b by omega] at this
 exact this.symm
theorem zGr (a:Nat):gSeg l from' a (a+1)=gOne l from' a:=by
 unfold gSeg
 rw [show a+1-a=1 by omega]
 simp [List.range'_succ]
theorem zGs (a:Nat):gSeg l from' a a=[]:=by unfold gSeg;rw [Nat.sub_self];rfl
variable {l}
theorem zEa {us:List Nat} (hl:zG l=some us) {i:Nat} (hi:i<l.length):∃ q,(l[i]).2.1=((q:Nat):Int)∧advT l q (i+1) (zC l i)=some (zC l i)∧(kidsB l i).length=q∧∀ n,n<q→(kidsB l i)[n]?=some (zQ l n (i+1)):=by
 obtain ⟨ts,q,h1,h2,h3,h4,h5⟩:=fH hl hi
 obtain ⟨q',g1,g2⟩:=kF hl hi
 obtain rfl:q=q':=by omega
 refine ⟨q,h2,g2,by rw [h5,List.length_take,xN];omega,fun n hn=>?_⟩
 have hk:∀ m n,n+m≤q→zQ l m (i+1+(ts.take n).sum)=i+1+(ts.take (n+m)).sum:=by
  intro m
  induction m with
  | zero=>intro n _;rfl
  | succ m ih =>
   intro n hn
   obtain ⟨_,k2,_⟩:=fI hl h1 h3 (show n<q by omega)
   rw [zQ,k2,ih (n+1) (by omega)]
   congr 3;omega
 have:=hk n 0 (by omega)
 simp only [List.take_zero,List.sum_nil,Nat.add_zero,Nat.zero_add] at this
 rw [this,h5,List.getElem?_take,if_pos hn]
 have hg:=zBa ts (i+1) n (by omega)
 have hl2:=xN ts (i+1)
 rw [List.getD_eq_getElem?_getD,List.getElem?_eq_getElem (by omega)] at hg
 rw [List.getElem?_eq_getElem (by omega)]
 simpa using hg
theorem zVr {us:List Nat} (hl:zG l=some us) {stop k:Nat} (hs:stop≤l.length) {n m b c:Nat} (hb:advT l n k stop=some b) (hc:advT l m k stop=some c) (h:n<m):b<c:=by
 rw [show m=n+(m-n) by omega,jG,hb,Option.bind_some] at hc
 have:=jF hl _ _ _ _ hs hc
 omega
theorem zJm {us:List Nat} (hl:zG l=some us) {i:Nat} (hi:i<l.length) {n k:Nat} (hk:advT l n (i+1) (zC l i)=some k) (hlt:k<zC l i):looseAt l k=looseZ (zR l i) n (zR l k):=by
 obtain ⟨q,h1,h2,h3,h4⟩:=zEa hl hi
 have hg:=zN hl hi
 have hle:=jF hl _ _ _ _ hg.2 hk
 obtain ⟨r1,r2,r3⟩:=zBh hl hg.2 h2 hk
 have hnq:n<q:=by
  rcases Nat.lt_or_ge n q with c | c
  ·exact c
  ·exfalso
   have:q=n:=by omega
   subst this
   rw [h2] at hk;cases hk;omega
 have hup:upN l k=(i:Int):=by
  apply zYn hl hi (by omega) hlt
  intro j hj1 hj2
  -- j lies within an earlier kid
  have key:∀ m b,advT l m (i+1) (zC l i)=some b→∀ j,i<j→j<b→zC l j≤b:=by
   intro m
   induction m with
   | zero=>intro b hb j h1 h2;rw [advT] at hb;cases hb;omega
   | succ m ih =>
    intro b hb j g1 g2
    rw [jG l m 1] at hb
    cases hm:advT l m (i+1) (zC l i) with
    | none=>rw [hm] at hb;cases hb
    | some c =>
     rw [hm,Option.bind_some,advT] at hb
     split at hb
     ·rename_i hc
      rw [advT] at hb
      cases hb
      rcases Nat.lt_trichotomy j c with c1 | c1 | c1
      ·have h1:=ih c hm j g1 c1
       have:=(zN hl (show c<l.length by omega)).1
       omega
      ·subst c1;exact Nat.le_refl _
      ·-- within the tree at c
       have hc1:c<l.length:=by omega
       have hp:=zIj hl hc1
       have hgc:=zN hl hc1
       have hS:=zIk hl (show c≤zC l c by omega) (jX.1 hp.1)
       have hx:j-c<(piece l c (zC l c)).length:=by rw [hp.2];omega
       have e1:=hS.end_ hx
       have e2:=zN (jX.1 hp.1) hx
       rw [hp.2] at e2
       rw [show j-c+c=j by omega] at e1
       omega
     ·cases hb
  exact key n k hk j hj1 hj2
 unfold looseAt
 rw [hup]
 show looseZ (zR l i) ((kidsB l i).idxOf k) (zR l k)=_
 have e:(kidsB l i)[n]?=some k:=by rw [h4 n hnq,fQ hk]
 congr 1
 rw [List.idxOf,List.findIdx_eq (by rw [h3];exact hnq)]
 obtain ⟨hn',he⟩:=List.getElem?_eq_some_iff.1 e
 refine ⟨by simpa using he,fun j hj=>?_⟩
 have hjq:j<q:=by omega
 have ej:=h4 j hjq
 obtain ⟨_,he2⟩:=List.getElem?_eq_some_iff.1 ej
 rw [he2]
 simp only [beq_eq_false_iff_ne]
 intro e3
 have hadv:∃ b,advT l j (i+1) (zC l i)=some b:=by
  have:=h2
  rw [show q=j+(q-j) by omega,jG] at this
  cases hj':advT l j (i+1) (zC l i) with
  | none=>rw [hj'] at this;cases this
  | some b=>exact ⟨b,rfl⟩
 obtain ⟨b,hb⟩:=hadv
 have:=zVr hl hg.2 hb hk hj
 rw [fQ hb] at e3
 omega
variable (l)
theorem yAm {us:List Nat} (hl:zG l=some us):∀ n,(∀ i,i<l.length→2*(zC l i-i)≤n→gPart l from' n i=pnAt l from' i::gSeg l from' (i+1) (zC l i)) ∧
  (∀ i k nth,i<l.length→advT l nth (i+1) (zC l i)=some k→k≤zC l i→2*(zC l i-k)+1≤n→gKids l from' n (zR l i) nth k (zC l i)=gSeg l from' k (zC l i))
 | 0=>⟨(fun i hi h=>by have:=(zN hl hi).1;omega),(fun _ _ _ _ _ _ h=>by omega)⟩
 | n+1=>by
  obtain ⟨h1,h2⟩:=yAm hl n
  constructor
  ·intro i hi h
   have hg:=zN hl hi
   rw [gPart,h2 i (i+1) 0 hi rfl (by omega) (by omega)]
  ·intro i k nth hi hk hle h
   have hg:=zN hl hi
   rw [gKids]
   split
   ·rename_i e;subst e;rw [zGs]
   ·rename_i e
    have hkl:k<zC l i:=by omega
    have hgk:=zN hl (show k<l.length by omega)
    obtain ⟨q,_,hq⟩:=kF hl hi
    obtain ⟨_,_,r3⟩:=zBh hl hg.2 hq hk
    obtain ⟨_,J,_,hJ⟩:=jH r3 e
    have hle2:=jF hl _ _ _ _ hg.2 hJ
    have hk2:advT l (nth+1) (i+1) (zC l i)=some (zC l k):=by rw [jG,hk,Option.bind_some,advT,if_pos hkl,advT]
    rw [h1 k (by omega) (by omega),h2 i (zC l k) (nth+1) hi hk2 (by omega) (by omega)]
    rw [zCy l from' (show k≤k+1 by omega) (show k+1≤zC l i by omega),zGr,zCy l from' (show k+1≤zC l k by omega) (show zC l k≤zC l i by omega)]
    unfold gOne brk
    rw [zJm hl hi hk hkl]
    simp
def guardZ:List PN:=gSeg l from' 0 l.length
theorem zGt (hl:zZ l=true):gPart l from' (2*l.length) 0=guardZ l from':=by
 have h0:=xA hl
 have hw:=zK hl
 rw [(yAm l from' hw _).1 0 h0.1 (by rw [h0.2];omega),h0.2]
 unfold guardZ
 rw [zCy l from' (show 0≤1 by omega) (show 1≤l.length by omega),zGr]
 unfold gOne looseAt
 have:upN l 0=Int.negSucc 0:=rfl
 rw [this]
 rfl
end
section
variable (l:List Prt) (from':List Int)
end
end Go.Proofs.YtfalelkfhandfaaGreatDoor
namespace Go.Proofs.YtfalelkfhandfaaGreatDoor
set_option linter.all false

section
variable (t l:List Prt) (hs:List Hl) (b:Nat→Nat×Nat)
def srcL (x y:Nat):List PN:=(List.range' x (y-x)).map fun i=>(zR l i,(i:Int))
theorem zCw {x y:Nat} (h1:x≤y) (h2:y≤l.length):(srcL l x y).map (·.1)=piece l x y:=by
 unfold srcL piece
 rw [List.map_map]
 apply List.ext_getElem
 ·simp;omega
 ·intro k g1 g2
  simp at g1
  simp [zR,List.getD_eq_getElem?_getD,show x+k<l.length by omega]
theorem zNa (x y:Nat):(srcL l x y).length=y-x:=by unfold srcL;simp
theorem zVo {x y:Nat} (h:y≤x):srcL l x y=[]:=by unfold srcL;rw [show y-x=0 by omega];rfl
mutual
def mPart:Nat→Nat→List PN
 | 0,_=>[]
 | n+1,p=>match zW t hs p with
  | some h=>srcL l (b h).1 (b h).2
  | none=>match t[p]? with
   | some a=>((a.1,(cntP ((mKids n (p+1) (zC t p)).map (·.1)):Int),a.2.2),-1)::mKids n (p+1) (zC t p)
   | none=>[]
def mKids:Nat→Nat→Nat→List PN
 | 0,_,_=>[]
 | n+1,p,pend=>if p=pend then [] else mPart n p++mKids n (zC t p) pend
end
theorem zLf (hb:∀ h,(b h).1≤(b h).2∧(b h).2≤l.length):∀ n,(∀ p,(mPart t l hs b n p).map (·.1)=iPart t hs (fun h=>piece l (b h).1 (b h).2) n p)∧(∀ p pend,(mKids t l hs b n p pend).map (·.1)=iKids t hs (fun h=>piece l (b h).1 (b h).2) n p pend)
 | 0=>⟨(fun p=>by rw [mPart,iPart];rfl),(fun p pend=>by rw [mKids,iKids];rfl)⟩
 | n+1=>by
  obtain ⟨h1,h2⟩:=zLf hb n
  constructor
  ·intro p
   rw [mPart,iPart]
   cases zW t hs p with
   | some h=>exact zCw l (hb h).1 (hb h).2
   | none =>
    simp only []
    cases t[p]? with
    | none=>rfl
    | some a=>simp only [List.map_cons,h2]
  ·intro p pend
   rw [mKids,iKids]
   split
   ·rfl
   ·rw [List.map_append,h1,h2]
def sizeS:Nat→Nat→Nat
 | 0,_=>0
 | n+1,p=>if p<t.length then (match zW t hs p with
  | some h=>((b h).2-(b h).1)+sizeS n (if yJ t p=50 then p+2 else p+1)
  | none=>1+sizeS n (p+1)) else 0
theorem kT:∀ n m p,t.length≤p+n→t.length≤p+m→sizeS t hs b n p=sizeS t hs b m p
 | 0,0,p,_,_=>rfl
 | 0,m+1,p,h,_=>by rw [sizeS,sizeS,if_neg (by omega)]
 | n+1,0,p,_,h=>by rw [sizeS,sizeS,if_neg (by omega)]
 | n+1,m+1,p,h1,h2=>by
  rw [sizeS,sizeS]
  split
  ·cases zW t hs p with
   | some h =>
    simp only []
    rw [kT n m _ (by split <;> omega) (by split <;> omega)]
   | none =>
    simp only []
    rw [kT n m _ (by omega) (by omega)]
  ·rfl
theorem zPy (H:vP t hs):∀ n,(∀ p,p<t.length→2*(zC t p-p)≤n→∀ N,t.length≤p+N→sizeS t hs b N p=(mPart t l hs b n p).length+sizeS t hs b (N-(zC t p-p)) (zC t p)) ∧
  (∀ p pend K,pend≤t.length→advT t K p pend=some pend→p≤pend→2*(pend-p)+1≤n→∀ N,t.length≤p+N→sizeS t hs b N p=(mKids t l hs b n p pend).length+sizeS t hs b (N-(pend-p)) pend)
 | 0=>⟨(fun p hp h=>by have:=(zN (zK H.well) hp).1;omega),(fun _ _ _ _ _ _ h=>by omega)⟩
 | n+1=>by
  obtain ⟨h1,h2⟩:=zPy H n
  have hf:=zK H.well
  constructor
  ·intro p hp hn N hN
   have hg:=zN hf hp
   obtain ⟨N,rfl⟩:∃ N',N=N'+1:=⟨N-1,by omega⟩
   rw [sizeS,if_pos hp,mPart]
   cases ho:zW t hs p with
   | some h =>
    simp only []
    rw [zNa]
    congr 1
    obtain ⟨hh,e⟩:=kB ho
    have hk:yJ t p=(t[p]).1:=by unfold yJ;rw [List.getElem?_eq_getElem hp]
    have hend:zC t p=if yJ t p=50 then p+2 else p+1:=by
     rcases xT e with ⟨a1,a2,a3,a4,a5⟩ | ⟨a1,a2,a5⟩
     ·have g1:=zDe hf hp (H.stmt p hp a4)
      have g2:=zBi hf a3 (H.leaf _ a3 (yC a5).1)
      rw [if_pos (by rw [hk];exact a4)];omega
     ·rw [if_neg (by rw [hk,(yC a5).1];omega)]
      exact zBi hf hp (H.leaf _ hp (yC a5).1)
    rw [← hend]
    exact kT t hs b _ _ _ (by omega) (by omega)
   | none =>
    rw [List.getElem?_eq_getElem hp]
    simp only []
    obtain ⟨q,_,hq⟩:=kF hf hp
    rw [List.length_cons,h2 (p+1) (zC t p) q hg.2 hq (by omega) (by omega) N (by omega)]
    rw [show N+1-(zC t p-p)=N-(zC t p-(p+1)) by omega]
    omega
  ·intro p pend K hpe hK hle hn N hN
   rw [mKids]
   split
   ·rename_i e
    subst e
    rw [Nat.sub_self,Nat.sub_zero]
    simp
   ·rename_i e
    obtain ⟨hlt,J,_,hJ⟩:=jH hK e
    have hg:=zN hf (show p<t.length by omega)
    have hle2:=jF hf _ _ _ _ hpe hJ
    rw [h1 p (by omega) (by omega) N hN,h2 (zC t p) pend J hpe hJ (by omega) (by omega) _ (by omega),List.length_append]
    rw [show N-(zC t p-p)-(pend-zC t p)=N-(pend-p) by omega]
    omega
theorem zZj (H:vP t hs):sizeS t hs b t.length 0=(mPart t l hs b (fuelZ t) 0).length:=by
 have h0:=xA H.well
 rw [(zPy t l hs b H (fuelZ t)).1 0 h0.1 (by rw [h0.2];unfold fuelZ;omega) t.length (by omega),h0.2]
 rw [show t.length-(t.length-0)=0 by omega,sizeS]
 omega
end
abbrev Mk:=Nat×List PN×Int
section
variable (l:List Prt)
def yO:List Mk→Nat→Int
 | [],_=>0
 | (x,_,d)::P,i=>(if 0<x∧upN l x=(i:Int) then d else 0)+yO P i
def stayN (P:List Mk) (i:Nat):PN:=(((zR l i).1,(zR l i).2.1+yO l P i,(zR l i).2.2),(i:Int))
def outGo (all:List Mk):Nat→Nat→List Mk→List PN
 | 0,_,_=>[]
 | n+1,i,P=>if i<l.length then (match P with
  | (x,m,_)::R=>if x=i then m++outGo all n (zC l i) R else stayN l all i::outGo all n (i+1) P
  | []=>stayN l all i::outGo all n (i+1) []) else []
def Free:Nat→List Mk→Prop
 | _,[]=>True
 | a,(x,_,_)::P=>a≤x∧x<l.length∧Free (zC l x) P
def laterZ:List Mk→Nat→Int
 | [],a=>(l.length:Int)-a
 | (x,m,_)::P,a=>(x:Int)-a+m.length+laterZ P (zC l x)
def stays (all:List Mk) (a b:Nat):List PN:=(List.range' a (b-a)).map (stayN l all)
theorem fU (all:List Mk) {a b c:Nat} (h1:a≤b) (h2:b≤c):stays l all a c=stays l all a b++stays l all b c:=by
 unfold stays
 rw [← List.map_append,show c-a=(b-a)+(c-b) by omega]
 congr 1
 have:=List.range'_append (s:=a) (m:=b-a) (n:=c-b) (step:=1)
 rw [Nat.one_mul,show a+(b-a)=b by omega] at this
 exact this.symm
theorem jN (all:List Mk) {a b:Nat} (h:a<b):stays l all a b=stayN l all a::stays l all (a+1) b:=by
 unfold stays
 rw [show b-a=(b-(a+1))+1 by omega,List.range'_succ,List.map_cons]
theorem zJk (all:List Mk) (a:Nat):stays l all a a=[]:=by unfold stays;rw [Nat.sub_self];rfl
theorem kW (all:List Mk) (a b:Nat):(stays l all a b).length=b-a:=by unfold stays;simp
theorem kR (all:List Mk) {us:List Nat} (hl:zG l=some us):∀ (n i x:Nat) (m:List PN) (d:Int) (R:List Mk),i≤x→x<l.length→l.length-i<n→∃ n',l.length-zC l x<n'∧outGo l all n i ((x,m,d)::R)=stays l all i x++(m++outGo l all n' (zC l x) R)
 | 0,i,x,m,d,R,_,_,h=>by omega
 | n+1,i,x,m,d,R,hi,hx,hn=>by
  rw [outGo,if_pos (by omega)]
  by_cases e:x=i
  ·subst e
   rw [if_pos rfl,zJk]
   have:=zN hl hx
   exact ⟨n,by omega,rfl⟩
  ·rw [if_neg e,jN l all (show i<x by omega)]
   obtain ⟨n',h1,h2⟩:=kR all hl n (i+1) x m d R (by omega) hx (by omega)
   exact ⟨n',h1,by rw [h2];rfl⟩
theorem kM (all:List Mk):∀ (n i:Nat),l.length-i<n→outGo l all n i []=stays l all i l.length
 | 0,i,h=>by omega
 | n+1,i,hn=>by
  rw [outGo]
  by_cases h:i<l.length
  ·rw [if_pos h,jN l all h,kM all n (i+1) (by omega)]
  ·rw [if_neg h]
   unfold stays
   rw [show l.length-i=0 by omega];rfl
theorem zAp (all:List Mk) {us:List Nat} (hl:zG l=some us):∀ (P:List Mk) (n m i:Nat),Free l i P→l.length-i<n→l.length-i<m→outGo l all n i P=outGo l all m i P
 | [],n,m,i,_,h1,h2=>by rw [kM l all n i h1,kM l all m i h2]
 | (x,q,d)::R,n,m,i,hf,h1,h2=>by
  obtain ⟨g1,g2,g3⟩:=hf
  obtain ⟨n',e1,e2⟩:=kR l all hl n i x q d R g1 g2 h1
  obtain ⟨m',k1,k2⟩:=kR l all hl m i x q d R g1 g2 h2
  rw [e2,k2,zAp all hl R n' m' _ g3 e1 k1]
theorem fV (all:List Mk) {us:List Nat} (hl:zG l=some us):∀ (P:List Mk) (n i:Nat),Free l i P→l.length-i<n→i≤l.length→((outGo l all n i P).length:Int)=laterZ l P i
 | [],n,i,_,h1,hi=>by rw [kM l all n i h1,kW,laterZ];omega
 | (x,q,d)::R,n,i,hf,h1,hi=>by
  obtain ⟨g1,g2,g3⟩:=hf
  obtain ⟨n',e1,e2⟩:=kR l all hl n i x q d R g1 g2 h1
  have hg:=zN hl g2
  have ih:=fV all hl R n' _ g3 e1 hg.2
  rw [e2,List.length_append,List.length_append,kW,laterZ]
  omega
def addKN:List PN→Nat→Int→List PN
 | [],_,_=>[]
 | p::r,0,d=>((p.1.1,p.1.2.1+d,p.1.2.2),p.2)::r
 | p::r,k+1,d=>p::addKN r k d
theorem zJl:∀ (a b:List PN) (k:Nat) (d:Int),k<a.length→addKN (a++b) k d=addKN a k d++b
 | [],b,k,d,h=>by simp at h
 | p::r,b,0,d,h=>rfl
 | p::r,b,k+1,d,h=>by rw [List.cons_append,addKN,addKN,zJl r b k d (by simpa using h),List.cons_append]
def backZ:List Mk→List PN
 | []=>stays l [] 0 l.length
 | (x,m,d)::P =>
  let o:=if 0<x then addKN (backZ P) (upN l x).toNat d else backZ P
  o.take x++(m++o.drop ((o.length:Int)-laterZ l P (zC l x)).toNat)
theorem zDz (x:Nat):upN l x<(x:Int):=by
 unfold upN
 have key:∀ k,upI l x k<(k:Int):=by
  intro k
  induction k with
  | zero=>rw [upI];omega
  | succ k ih=>rw [upI];split <;> omega
 exact key x
theorem fJ {A B:List Mk} {a b:Nat} (h:∀ i,a≤i→i<b→yO l A i=yO l B i):stays l A a b=stays l B a b:=by
 unfold stays
 apply List.map_congr_left
 intro i hi
 rw [List.mem_range'_1] at hi
 unfold stayN
 rw [h i hi.1 (by omega)]
theorem zFa {A B:List Mk} {us:List Nat} (hl:zG l=some us):∀ (P:List Mk) (n i:Nat),Free l i P→l.length-i<n→(∀ j,i≤j→yO l A j=yO l B j)→outGo l A n i P=outGo l B n i P
 | [],n,i,_,h1,h=>by rw [kM l A n i h1,kM l B n i h1];exact fJ l fun j h2 _=>h j h2
 | (x,q,d)::R,n,i,hf,h1,h=>by
  obtain ⟨g1,g2,g3⟩:=hf
  obtain ⟨n',e1,e2⟩:=kR l A hl n i x q d R g1 g2 h1
  obtain ⟨m',k1,k2⟩:=kR l B hl n i x q d R g1 g2 h1
  have hg:=zN hl g2
  rw [e2,k2,zAp l A hl R n' m' _ g3 e1 k1,zFa hl R m' _ g3 k1 (fun j hj=>h j (by omega)),fJ l fun j h2 _=>h j h2]
theorem zNb (A:List Mk) (x:Nat) (m:List PN) (d:Int) {b u:Nat} (hx:0<x) (hu:upN l x=(u:Int)):∀ a,a≤u→addKN (stays l A a b) (u-a) d=if u<b then stays l ((x,m,d)::A) a b else stays l A a b:=by
 intro a ha
 by_cases hub:u<b
 ·rw [if_pos hub]
  have key:∀ k a,a+k=u→addKN (stays l A a b) k d=stays l ((x,m,d)::A) a b:=by
   intro k
   induction k with
   | zero =>
    intro a e
    rw [jN l A (show a<b by omega),jN l _ (show a<b by omega),addKN]
    congr 1
    ·unfold stayN
     rw [yO,if_pos ⟨hx,by rw [hu];omega⟩]
     simp only [Prod.mk.injEq,and_true,true_and]
     omega
    ·refine fJ l fun i h1 h2=>?_
     rw [yO,if_neg (fun h=>by have:=h.2;rw [hu] at this;omega)];omega
   | succ k ih =>
    intro a e
    rw [jN l A (show a<b by omega),jN l _ (show a<b by omega),addKN,ih (a+1) (by omega)]
    congr 1
    unfold stayN
    rw [yO,if_neg (fun h=>by have:=h.2;rw [hu] at this;omega)]
    simp
  exact key (u-a) a (by omega)
 ·rw [if_neg hub]
  have key:∀ (L:List PN) k,L.length≤k→addKN L k d=L:=by
   intro L
   induction L with
   | nil=>intro k _;cases k <;> rfl
   | cons p r ih =>
    intro k hk
    cases k with
    | zero=>simp at hk
    | succ k=>rw [addKN,ih k (by simpa using hk)]
  exact key _ _ (by rw [kW];omega)
theorem zCx {us:List Nat} (hl:zG l=some us):∀ (P:List Mk) (n:Nat),Free l 0 P→l.length<n→(∀ x m d,(x,m,d)∈P→0<x→0≤upN l x)→backZ l P=outGo l P n 0 P
 | [],n,_,hn,_=>by rw [backZ,kM l [] n 0 (by omega)]
 | (x,m,d)::P,n,hf,hn,hup=>by
  obtain ⟨g1,g2,g3⟩:=hf
  have hg:=zN hl g2
  have hf0:Free l 0 P:=by
   cases P with
   | nil=>trivial
   | cons q R =>
    obtain ⟨y,m',d'⟩:=q
    exact ⟨Nat.zero_le _,g3.2⟩
  have ih:=zCx hl P n hf0 hn (fun y m' d' hy=>hup y m' d' (by simp [hy]))
  -- what stands when the later picks are made
  have hsplit:∃ n',l.length-zC l x<n'∧backZ l P=stays l P 0 (zC l x)++outGo l P n' (zC l x) P:=by
   rw [ih]
   cases P with
   | nil =>
    refine ⟨l.length+1,by omega,?_⟩
    rw [kM l [] n 0 (by omega),kM l [] _ _ (by omega),← fU l [] (by omega) hg.2]
   | cons q R =>
    obtain ⟨y,m',d'⟩:=q
    obtain ⟨k1,k2,k3⟩:=g3
    obtain ⟨n1,e1,e2⟩:=kR l ((y,m',d')::R) hl n 0 y m' d' R (by omega) k2 (by omega)
    obtain ⟨n2,f1,f2⟩:=kR l ((y,m',d')::R) hl (l.length+1) (zC l x) y m' d' R k1 k2 (by omega)
    refine ⟨l.length+1,by omega,?_⟩
    rw [e2,f2,zAp l _ hl R n1 n2 _ k3 e1 f1,fU l _ (show 0≤zC l x by omega) k1,List.append_assoc]
  obtain ⟨n',h1,h2⟩:=hsplit
  obtain ⟨n2,e1,e2⟩:=kR l ((x,m,d)::P) hl n 0 x m d P (by omega) g2 (by omega)
  have hlen:=fV l P hl P n' _ g3 h1 hg.2
  have hpast:∀ j,zC l x≤j→yO l P j=yO l ((x,m,d)::P) j:=by
   intro j hj
   rw [yO,if_neg (fun h=>by have:=zDz l x;omega)];omega
  rw [e2,backZ]
  have ho:(if 0<x then addKN (backZ l P) (upN l x).toNat d else backZ l P)=stays l ((x,m,d)::P) 0 x++(stays l ((x,m,d)::P) x (zC l x)++outGo l P n' (zC l x) P):=by
   by_cases hx:0<x
   ·rw [if_pos hx,h2]
    have hu0:=hup x m d (by simp) hx
    have hul:=zDz l x
    obtain ⟨u,hu⟩:∃ u:Nat,upN l x=(u:Int):=⟨(upN l x).toNat,by omega⟩
    rw [hu,Int.toNat_natCast,zJl _ _ _ _ (by rw [kW];omega)]
    have:=zNb l P x m d (b:=zC l x) hx hu 0 (Nat.zero_le _)
    rw [Nat.sub_zero,if_pos (by omega)] at this
    rw [this,← List.append_assoc,← fU l _ (Nat.zero_le _) (by omega)]
   ·rw [if_neg hx,h2]
    obtain rfl:x=0:=by omega
    rw [zJk,List.nil_append]
    congr 1
    refine fJ l fun i _ _=>?_
    rw [yO,if_neg (fun h=>by omega)];omega
  rw [ho]
  have hl1:(stays l ((x,m,d)::P) 0 x).length=x:=by rw [kW];omega
  have hl2:(stays l ((x,m,d)::P) 0 x++stays l ((x,m,d)::P) x (zC l x)).length=zC l x:=by rw [List.length_append,kW,kW];omega
  rw [List.take_left' hl1]
  congr 2
  rw [← List.append_assoc,List.length_append,hl2,← hlen,show ((zC l x+(outGo l P n' (zC l x) P).length:Nat):Int)-((outGo l P n' (zC l x) P).length:Int)=(zC l x:Int) by omega,Int.toNat_natCast,List.drop_left' hl2]
  rw [zAp l P hl P n' n2 _ g3 h1 e1]
  exact zFa l hl P n2 _ g3 e1 hpast
end
end Go.Proofs.YtfalelkfhandfaaGreatDoor
