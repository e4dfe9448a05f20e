/- Layer 16: the program's kind, walked. -/
import Derived.Test.YtfalelkfhandfaaGreatDoorFindPMq
import Derived.Test.YtfalelkfhandfaaGreatDoorCheckBMq
import Derived.Test.YtfalelkfhandfaaGreatDoorPackMq
import Derived.Test.YtfalelkfhandfaaGreatDoorQuoted2Mq
namespace Go.Proofs.YtfalelkfhandfaaGreatDoor
set_option maxRecDepth 100000
set_option maxHeartbeats 32000000
set_option linter.all false
attribute [local irreducible] Calls
open Go.RowKit

def kindU (l:List Prt) (u:Int):Int:=match kindI l u with
 | some k=>(k:Int)
 | none=>69
theorem zTs (l:List Prt) (i:Nat):-1≤upN l i:=by
 unfold upN
 have key:∀ k,-1≤upI l i k:=by
  intro k
  induction k with
  | zero=>rw [upI];omega
  | succ k ih=>rw [upI];split <;> omega
 exact key i
theorem zBd (l:List Prt) (i:Nat):upN l i<(i:Int):=by
 unfold upN
 have key:∀ k,upI l i k<(k:Int):=by
  intro k
  induction k with
  | zero=>rw [upI];omega
  | succ k ih=>rw [upI];split <;> omega
 exact key i
theorem zQp (l:List Prt) (hl:l.length≤1000000000) (v:Value) (u:Int) (h1:-1≤u) (h2:u<l.length) (w:World) (hr:zG w v l) :
  Calls Tryz.prog 106 #[v,.int .i64 u] w fun e w'=>e=.returned (.int .u8 (kindU l u))∧w=w':=by
 have HQ:Hid (∀ x,kindU l u=x→(fun (e:Ending) w'=>e=.returned (.int .u8 (kindU l u))∧w=w') (.returned (.int .u8 x)) w):=Hd fun x h=>⟨by rw [h],rfl⟩
 generalize (fun (e:Ending) w'=>e=.returned (.int .u8 (kindU l u))∧w=w')=Q at *
 obtain ⟨va,vcap,rfl,hvc⟩:=hr.slice
 by_cases hu:u<0
 ·have HX:=Hd (HQ.out 69 (by unfold kindU kindI;rw [if_pos hu]))
  go_enter Tryz.func106,Tryz.ntmps106
  go_wp2_with fail
  exact HX.out
 ·obtain ⟨k,rfl⟩:∃ k:Nat,u=(k:Int):=⟨u.toNat,by omega⟩
  have hk:k<l.length:=by omega
  obtain ⟨b,off,rfl,_,_,hbl,hcell⟩:=hr.at (Below.refl _ _) (show 0<l.length by omega)
  have c0:=(hcell k hk).1
  have hk0:(0:Int)≤(k:Int):=by omega
  have hkl:(k:Int)<l.length:=by omega
  have hneg:¬ (k:Int)<0:=by omega
  have HX:=Hd (HQ.out ((l[k]).1:Int) (by unfold kindU kindI;rw [if_neg hneg,Int.toNat_natCast,List.getElem?_eq_getElem hk];rfl))
  clear hcell hr HQ
  generalize (l[k]).1=x at *
  go_enter Tryz.func106,Tryz.ntmps106
  go_wp2_with fail
  exact HX.out
end Go.Proofs.YtfalelkfhandfaaGreatDoor
namespace Go.Proofs.YtfalelkfhandfaaGreatDoor
set_option linter.all false

section
variable (t l:List Prt) (hs:List Hl) (b:Nat→Nat×Nat)
def srcL (x y:Nat):List PN:=(List.range' x (y-x)).map fun i=>(zT l i,(i:Int))
theorem zAv {x y:Nat} (h1:x≤y) (h2:y≤l.length):(srcL l x y).map (·.1)=piece l x y:=by
 unfold srcL piece
 rw [List.map_map]
 apply List.ext_getElem
 ·simp;omega
 ·intro k g1 g2
  simp at g1
  simp [zT,List.getD_eq_getElem?_getD,show x+k<l.length by omega]
theorem zRw (x y:Nat):(srcL l x y).length=y-x:=by unfold srcL;simp
theorem zRx {x y:Nat} (h:y≤x):srcL l x y=[]:=by unfold srcL;rw [show y-x=0 by omega];rfl
mutual
def mPart:Nat→Nat→List PN
 | 0,_=>[]
 | n+1,p=>match zM t hs p with
  | some h=>srcL l (b h).1 (b h).2
  | none=>match t[p]? with
   | some a=>((a.1,(cntP ((mKids n (p+1) (zA t p)).map (·.1)):Int),a.2.2),-1)::mKids n (p+1) (zA t p)
   | none=>[]
def mKids:Nat→Nat→Nat→List PN
 | 0,_,_=>[]
 | n+1,p,pend=>if p=pend then [] else mPart n p++mKids n (zA t p) pend
end
theorem zAg (hb:∀ h,(b h).1≤(b h).2∧(b h).2≤l.length):∀ n,(∀ p,(mPart t l hs b n p).map (·.1)=iPart t hs (fun h=>piece l (b h).1 (b h).2) n p)∧(∀ p pend,(mKids t l hs b n p pend).map (·.1)=iKids t hs (fun h=>piece l (b h).1 (b h).2) n p pend)
 | 0=>⟨(fun p=>by rw [mPart,iPart];rfl),(fun p pend=>by rw [mKids,iKids];rfl)⟩
 | n+1=>by
  obtain ⟨h1,h2⟩:=zAg hb n
  constructor
  ·intro p
   rw [mPart,iPart]
   cases zM t hs p with
   | some h=>exact zAv l (hb h).1 (hb h).2
   | none =>
    simp only []
    cases t[p]? with
    | none=>rfl
    | some a=>simp only [List.map_cons,h2]
  ·intro p pend
   rw [mKids,iKids]
   split
   ·rfl
   ·rw [List.map_append,h1,h2]
def sizeS:Nat→Nat→Nat
 | 0,_=>0
 | n+1,p=>if p<t.length then (match zM t hs p with
  | some h=>((b h).2-(b h).1)+sizeS n (if zX t p=50 then p+2 else p+1)
  | none=>1+sizeS n (p+1)) else 0
theorem zAh:∀ n m p,t.length≤p+n→t.length≤p+m→sizeS t hs b n p=sizeS t hs b m p
 | 0,0,p,_,_=>rfl
 | 0,m+1,p,h,_=>by rw [sizeS,sizeS,if_neg (by omega)]
 | n+1,0,p,_,h=>by rw [sizeS,sizeS,if_neg (by omega)]
 | n+1,m+1,p,h1,h2=>by
  rw [sizeS,sizeS]
  split
  ·cases zM t hs p with
   | some h =>
    simp only []
    rw [zAh n m _ (by split <;> omega) (by split <;> omega)]
   | none =>
    simp only []
    rw [zAh n m _ (by omega) (by omega)]
  ·rfl
theorem zRy (H:xN t hs):∀ n,(∀ p,p<t.length→2*(zA t p-p)≤n→∀ N,t.length≤p+N→sizeS t hs b N p=(mPart t l hs b n p).length+sizeS t hs b (N-(zA t p-p)) (zA t p)) ∧
  (∀ p pend K,pend≤t.length→advT t K p pend=some pend→p≤pend→2*(pend-p)+1≤n→∀ N,t.length≤p+N→sizeS t hs b N p=(mKids t l hs b n p pend).length+sizeS t hs b (N-(pend-p)) pend)
 | 0=>⟨(fun p hp h=>by have:=(zJ (zI H.well) hp).1;omega),(fun _ _ _ _ _ _ h=>by omega)⟩
 | n+1=>by
  obtain ⟨h1,h2⟩:=zRy H n
  have hf:=zI H.well
  constructor
  ·intro p hp hn N hN
   have hg:=zJ hf hp
   obtain ⟨N,rfl⟩:∃ N',N=N'+1:=⟨N-1,by omega⟩
   rw [sizeS,if_pos hp,mPart]
   cases ho:zM t hs p with
   | some h =>
    simp only []
    rw [zRw]
    congr 1
    obtain ⟨hh,e⟩:=vC ho
    have hk:zX t p=(t[p]).1:=by unfold zX;rw [List.getElem?_eq_getElem hp]
    have hend:zA t p=if zX t p=50 then p+2 else p+1:=by
     rcases yQ e with ⟨a1,a2,a3,a4,a5⟩ | ⟨a1,a2,a5⟩
     ·have g1:=gI hf hp (H.stmt p hp a4)
      have g2:=jU hf a3 (H.leaf _ a3 (zR a5).1)
      rw [if_pos (by rw [hk];exact a4)];omega
     ·rw [if_neg (by rw [hk,(zR a5).1];omega)]
      exact jU hf hp (H.leaf _ hp (zR a5).1)
    rw [← hend]
    exact zAh t hs b _ _ _ (by omega) (by omega)
   | none =>
    rw [List.getElem?_eq_getElem hp]
    simp only []
    obtain ⟨q,_,hq⟩:=yW hf hp
    rw [List.length_cons,h2 (p+1) (zA t p) q hg.2 hq (by omega) (by omega) N (by omega)]
    rw [show N+1-(zA t p-p)=N-(zA t p-(p+1)) by omega]
    omega
  ·intro p pend K hpe hK hle hn N hN
   rw [mKids]
   split
   ·rename_i e
    subst e
    rw [Nat.sub_self,Nat.sub_zero]
    simp
   ·rename_i e
    obtain ⟨hlt,J,_,hJ⟩:=yR hK e
    have hg:=zJ hf (show p<t.length by omega)
    have hle2:=yZ hf _ _ _ _ hpe hJ
    rw [h1 p (by omega) (by omega) N hN,h2 (zA t p) pend J hpe hJ (by omega) (by omega) _ (by omega),List.length_append]
    rw [show N-(zA t p-p)-(pend-zA t p)=N-(pend-p) by omega]
    omega
end
abbrev Mk:=Nat×List PN×Int
section
variable (l:List Prt)
def yL:List Mk→Nat→Int
 | [],_=>0
 | (x,_,d)::P,i=>(if 0<x∧upN l x=(i:Int) then d else 0)+yL P i
def stayN (P:List Mk) (i:Nat):PN:=(((zT l i).1,(zT l i).2.1+yL l P i,(zT l i).2.2),(i:Int))
def outGo (all:List Mk):Nat→Nat→List Mk→List PN
 | 0,_,_=>[]
 | n+1,i,P=>if i<l.length then (match P with
  | (x,m,_)::R=>if x=i then m++outGo all n (zA l i) R else stayN l all i::outGo all n (i+1) P
  | []=>stayN l all i::outGo all n (i+1) []) else []
def Free:Nat→List Mk→Prop
 | _,[]=>True
 | a,(x,_,_)::P=>a≤x∧x<l.length∧Free (zA l x) P
def laterZ:List Mk→Nat→Int
 | [],a=>(l.length:Int)-a
 | (x,m,_)::P,a=>(x:Int)-a+m.length+laterZ P (zA l x)
def stays (all:List Mk) (a b:Nat):List PN:=(List.range' a (b-a)).map (stayN l all)
theorem zDt (all:List Mk) {a b:Nat} (h:a<b):stays l all a b=stayN l all a::stays l all (a+1) b:=by
 unfold stays
 rw [show b-a=(b-(a+1))+1 by omega,List.range'_succ,List.map_cons]
theorem zOz (all:List Mk) (a:Nat):stays l all a a=[]:=by unfold stays;rw [Nat.sub_self];rfl
theorem zGl (all:List Mk) (a b:Nat):(stays l all a b).length=b-a:=by unfold stays;simp
theorem zDu (all:List Mk) {us:List Nat} (hl:zF l=some us):∀ (n i x:Nat) (m:List PN) (d:Int) (R:List Mk),i≤x→x<l.length→l.length-i<n→∃ n',l.length-zA l x<n'∧outGo l all n i ((x,m,d)::R)=stays l all i x++(m++outGo l all n' (zA l x) R)
 | 0,i,x,m,d,R,_,_,h=>by omega
 | n+1,i,x,m,d,R,hi,hx,hn=>by
  rw [outGo,if_pos (by omega)]
  by_cases e:x=i
  ·subst e
   rw [if_pos rfl,zOz]
   have:=zJ hl hx
   exact ⟨n,by omega,rfl⟩
  ·rw [if_neg e,zDt l all (show i<x by omega)]
   obtain ⟨n',h1,h2⟩:=zDu all hl n (i+1) x m d R (by omega) hx (by omega)
   exact ⟨n',h1,by rw [h2];rfl⟩
theorem zBo (all:List Mk):∀ (n i:Nat),l.length-i<n→outGo l all n i []=stays l all i l.length
 | 0,i,h=>by omega
 | n+1,i,hn=>by
  rw [outGo]
  by_cases h:i<l.length
  ·rw [if_pos h,zDt l all h,zBo all n (i+1) (by omega)]
  ·rw [if_neg h]
   unfold stays
   rw [show l.length-i=0 by omega];rfl
theorem zGm (all:List Mk) {us:List Nat} (hl:zF l=some us):∀ (P:List Mk) (n i:Nat),Free l i P→l.length-i<n→i≤l.length→((outGo l all n i P).length:Int)=laterZ l P i
 | [],n,i,_,h1,hi=>by rw [zBo l all n i h1,zGl,laterZ];omega
 | (x,q,d)::R,n,i,hf,h1,hi=>by
  obtain ⟨g1,g2,g3⟩:=hf
  obtain ⟨n',e1,e2⟩:=zDu l all hl n i x q d R g1 g2 h1
  have hg:=zJ hl g2
  have ih:=zGm all hl R n' _ g3 e1 hg.2
  rw [e2,List.length_append,List.length_append,zGl,laterZ]
  omega
end
end Go.Proofs.YtfalelkfhandfaaGreatDoor
namespace Go.Proofs.YtfalelkfhandfaaGreatDoor
set_option linter.all false

end Go.Proofs.YtfalelkfhandfaaGreatDoor
namespace Go.Proofs.YtfalelkfhandfaaGreatDoor
set_option linter.all false

structure KidSeq (f:List Prt) (p q:Nat) (kp:Nat→Nat):Prop where
 len:(kidsB f p).length=q
 get:∀ c,c<q→(kidsB f p)[c]?=some (kp c)
 lt:∀ c,c<q→kp c<f.length
 nx:∀ c,c<q→zA f (kp c)=kp (c+1)
 up:∀ c,c<q→kp c<kp (c+1)
 le:∀ c,c≤q→kp c≤zA f p
 z:kp 0=p+1
 e:kp q=zA f p
 n:(q:Int)≤f.length
theorem zWc {f:List Prt} {us:List Nat} (h:zF f=some us) {p:Nat} (hp:p<f.length):∃ q kp,KidSeq f p q kp:=by
 obtain ⟨ts,q,f1,f2,f3,f4,f5⟩:=zAt h hp
 have hl:=(yO f1).2.1
 rw [List.length_drop] at hl
 refine ⟨q,fun c=>p+1+(ts.take c).sum,⟨?_,fun c hc=>?_,fun c hc=>?_,fun c hc=>?_,fun c hc=>?_,fun c hc=>?_,by simp,f4.symm,by omega⟩⟩
 ·rw [f5,List.length_take,xG];omega
 ·obtain ⟨_,_,g3,_⟩:=gL h f1 f3 hc
  have e1:(starts (p+1) ts)[c]?=some (p+1+(ts.take c).sum):=by
   have e2:((starts (p+1) ts).take (c+1))[c]?=some (p+1+(ts.take c).sum):=by
    rw [g3,List.getElem?_append_right (by rw [List.length_take,xG];omega),List.length_take,xG,Nat.min_eq_left (by omega),Nat.sub_self]
    rfl
   rw [List.getElem?_take_of_lt (by omega)] at e2
   exact e2
  rw [f5,List.getElem?_take_of_lt hc,e1]
 ·exact (gL h f1 f3 hc).1
 ·exact (gL h f1 f3 hc).2.1
 ·have:=(gL h f1 f3 hc).2.2.2.2.1
  show p+1+_<p+1+_
  omega
 ·rw [f4]
  have:=kI ts c (q-c)
  rw [show c+(q-c)=q by omega] at this
  show p+1+_≤p+1+_
  omega
section
variable {f l:List Prt} {hs:List Hl} {L:Nat→Nat}
end
end Go.Proofs.YtfalelkfhandfaaGreatDoor
namespace Go.Proofs.YtfalelkfhandfaaGreatDoor
set_option linter.all false
open Go.RowKit

end Go.Proofs.YtfalelkfhandfaaGreatDoor
namespace Go.Proofs.YtfalelkfhandfaaGreatDoor
set_option linter.all false
attribute [local irreducible] Calls
open Go.RowKit

def partA (p:Prt):Value:=.agg #[.int .u8 (p.1:Int),.int .i64 p.2.1,.string p.2.2]
def lvl (i:Nat):List (List UInt8):=match i with
 | 0=>wL1
 | 1=>wL2
 | 2=>wL3
 | 3=>wL4
 | _=>wL5
theorem zSc (i:Nat):∀ v∈lvl i,(32:UInt8)∉v∧v≠[]:=by
 match i with
 | 0=>decide
 | 1=>decide
 | 2=>decide
 | 3=>decide
 | n+4=>show ∀ v∈wL5,_;decide
theorem fQ (i:Nat) (s:ByteArray):(decide (s.toList≠[])&&(!Lib.contains s.toList [32]&&Lib.contains (jn (lvl i)) (32::(s.toList++[32]))))=decide (s.toList∈lvl i):=zJo (zSc i)
theorem zSd (s:ByteArray):lvW s=if s.toList∈lvl 0 then 1 else if s.toList∈lvl 1 then 2 else if s.toList∈lvl 2 then 3 else if s.toList∈lvl 3 then 4 else if s.toList∈lvl 4 then 5 else 1:=rfl
end Go.Proofs.YtfalelkfhandfaaGreatDoor
namespace Go.Proofs.YtfalelkfhandfaaGreatDoor
set_option maxRecDepth 100000
set_option maxHeartbeats 32000000
set_option linter.all false
attribute [local irreducible] Calls
open Go.RowKit

def gvRel (s:ByteArray) (W1:World) (iv:Value) (wr:World):Prop:=∃ i:Nat,iv=.int .i64 (i:Int)∧i≤5∧(∀ j,j<i→s.toList∉lvl j)∧wr=W1
theorem zVa {s:ByteArray} {i:Nat} (hi:i<5) (hno:∀ j,j<i→s.toList∉lvl j) (h:s.toList∈lvl i):lvW s=i+1:=by
 rw [zSd]
 have h5:i=0∨i=1∨i=2∨i=3∨i=4:=by omega
 rcases h5 with rfl | rfl | rfl | rfl | rfl
 ·rw [if_pos h]
 ·rw [if_neg (hno 0 (by omega)),if_pos h]
 ·rw [if_neg (hno 0 (by omega)),if_neg (hno 1 (by omega)),if_pos h]
 ·rw [if_neg (hno 0 (by omega)),if_neg (hno 1 (by omega)),if_neg (hno 2 (by omega)),if_pos h]
 ·rw [if_neg (hno 0 (by omega)),if_neg (hno 1 (by omega)),if_neg (hno 2 (by omega)),if_neg (hno 3 (by omega)),if_pos h]
theorem zSg {s:ByteArray} (hno:∀ j,j<5→s.toList∉lvl j):lvW s=1:=by
 rw [zSd,if_neg (hno 0 (by omega)),if_neg (hno 1 (by omega)),if_neg (hno 2 (by omega)),if_neg (hno 3 (by omega)),if_neg (hno 4 (by omega))]
theorem zCl (p:Prt) (hs:p.2.2.size≤1048576) (w:World) (hM:MaxC w) :
  Calls Tryz.prog 86 #[partA p] w fun e w'=>e=.returned (.int .i64 (yP p:Int))∧Below w.heap.size w w':=by
 have HQ:Hid (∀ x w',(yP p:Int)=x→Below w.heap.size w w'→(fun (e:Ending) w'=>e=.returned (.int .i64 (yP p:Int))∧Below w.heap.size w w') (.returned (.int .i64 x)) w'):=Hd fun x w' h hb=>⟨by rw [h],hb⟩
 generalize (fun (e:Ending) w'=>e=.returned (.int .i64 (yP p:Int))∧Below w.heap.size w w')=Q at *
 obtain ⟨k,n,s⟩:=p
 unfold partA
 simp only [] at hs HQ ⊢
 have HX:=Hd ((Below.refl w.heap.size w).alloc (Nat.le_refl _) (.cells #[.int .u8 (k:Int),.int .i64 n,.string s] 38))
 have HPK:Hid (PK (w.alloc (.cells #[.int .u8 (k:Int),.int .i64 n,.string s] 38)) w.heap.size (k,n,s)):=Hd (PK.alloc_new w (k,n,s))
 by_cases h36:k=36
 ·subst h36
  have HZ:=Hd (HQ.out 6 _ rfl HX.out)
  go_enter Tryz.func86,Tryz.ntmps86
  go_wp2_with fail
  exact HZ.out
 by_cases h35:k=35
 ·subst h35
  have HZ:=Hd (HQ.out 6 _ rfl HX.out)
  go_enter Tryz.func86,Tryz.ntmps86
  go_wp2_with fail
  exact HZ.out
 have g36:((k:Int) == 36)=false:=by rw [beq_eq_false_iff_ne];omega
 have g35:((k:Int) == 35)=false:=by rw [beq_eq_false_iff_ne];omega
 by_cases h37:k=37
 case neg =>
  have g37:((k:Int) == 37)=false:=by rw [beq_eq_false_iff_ne];omega
  have HZ:=Hd (HQ.out 7 _ (by unfold yP;rw [if_neg (by simp;omega),if_neg h37];rfl) HX.out)
  clear h35 h36 h37
  go_enter Tryz.func86,Tryz.ntmps86
  go_wp2_with fail
  exact HZ.out
 subst h37
 rw [show ((37:Nat):Int)=(37:Int) from rfl] at HX HPK ⊢
 have HL:Hid (yP (37,n,s)=lvW s):=Hd (by unfold yP;rw [if_neg (fun h=>by rcases h with h | h <;> simp at h),if_pos rfl])
 have CB:=Hd (fun (a b:ByteArray) (ha:a.size≤2000000) W (hb:Below w.heap.size w W)=>show Calls Tryz.prog 105 #[.string a,.string b] W fun e w'=>e=.returned (.bool (Lib.contains a.data.toList b.data.toList))∧w'=W by
  obtain ⟨m,hm,_⟩:=(hM.below hb)
  exact Tryz.strings_Contains a b m W (by omega) hm)
 have hz1:¬ 9223372036854775807<(⟨#[32]⟩:ByteArray).size+s.size:=by show ¬ _<1+_;omega
 have hz2:¬ 9223372036854775807<((⟨#[32]⟩:ByteArray)++s).size+(⟨#[32]⟩:ByteArray).size:=by rw [ByteArray.size_append];show ¬ _<1+_+1;omega
 have hcat:((⟨#[32]⟩:ByteArray)++s++⟨#[32]⟩).data.toList=32::(s.toList++[32]):=by rw [ByteArray.data_append,ByteArray.data_append,ByteArray.toList_eq];simp
 have HCAT:=Hd hcat
 have e2:s.data.toList=s.toList:=(ByteArray.toList_eq s).symm
 have HE2:=Hd e2
 clear hcat e2 hM h35 h36 g35 g36
 go_enter Tryz.func86,Tryz.ntmps86
 go_upto_region 1 with (fail)
 generalize w.alloc (.cells #[.int .u8 (37:Int),.int .i64 n,.string s] 38)=W1 at *
 have e3:=HPK.out.c2
 have e0:=HPK.out.c0
 simp only [] at e3 e0
 go_wp2_with fail
 clear e0
 go_loopw [13] (fun iv wr=>gvRel s W1 iv wr) (fun iv _=>5-(intOf iv).toNat)
 case atStart=>exact ⟨0,rfl,by omega,fun j hj=>absurd hj (Nat.not_lt_zero _),rfl⟩
 case round =>
  obtain ⟨i,rfl,hi,hno,rfl⟩:=hrel
  have HNO:=Hd hno
  clear hno
  by_cases hlt:i<5
  ·have hh:=fQ i s
   have HNX:Hid (s.toList∉lvl i→gvRel s wr (.int .i64 ((i:Int)+1)) wr):=Hd fun hn=>⟨i+1,by push_cast;rfl,by omega,fun j hj=>by
    by_cases e:j=i
    ·subst e;exact hn
    ·exact HNO.out j (by omega),rfl⟩
   have HYS:Hid (s.toList∈lvl i→Q (.returned (.int .i64 ((i:Int)+1))) wr):=Hd fun hn=>HQ.out _ wr (by rw [HL.out,zVa hlt HNO.out hn];push_cast;rfl) HX.out
   clear hh
   have hi5:i=0∨i=1∨i=2∨i=3∨i=4:=by omega
   have C1:=CB.out s ⟨#[32]⟩ (by omega) wr HX.out
   rw [HE2.out,show (⟨#[32]⟩:ByteArray).data.toList=[32] from rfl] at C1
   have C1:=Hd C1
   rcases hi5 with rfl | rfl | rfl | rfl | rfl
   ·have hh:=fQ 0 s
    have ix:∀ W:World,(Instr.index 165 (.agg #[.string ⟨#[32,124,124,32]⟩,.string ⟨#[32,38,38,32]⟩,.string ⟨#[32,61,61,32,33,61,32,60,32,60,61,32,62,32,62,61,32]⟩,.string ⟨#[32,43,32,45,32,124,32,94,32]⟩,.string ⟨#[32,42,32,47,32,37,32,60,60,32,62,62,32,38,32,38,94,32]⟩]) (.int .i64 0)).run Tryz.prog W=.ok (.string ⟨#[32,124,124,32]⟩) W:=fun _=>by kernel_rfl
    rw [show jn (lvl 0)=[32,124,124,32] from rfl] at hh
    have C2:=CB.out ⟨#[32,124,124,32]⟩ ((⟨#[32]⟩:ByteArray)++s++⟨#[32]⟩) (by decide) wr HX.out
    rw [HCAT.out,show (⟨#[32,124,124,32]⟩:ByteArray).data.toList=[32,124,124,32] from rfl] at C2
    have C2:=Hd C2
    have HNX:Hid (s.toList∉lvl 0→gvRel s wr (.int .i64 1) wr):=Hd fun hn=>by have h:=HNX.out hn;simpa using h
    have HYS:Hid (s.toList∈lvl 0→Q (.returned (.int .i64 1)) wr):=Hd fun hn=>by have h:=HYS.out hn;simpa using h
    generalize Lib.contains [32,124,124,32] (32::(s.toList++[32]))=b2 at *
    generalize Lib.contains s.toList [32]=b1 at *
    by_cases he:s.toList.isEmpty=true
    ·have he0:s.toList=[]:=by simpa using he
     have HZ:=Hd (HNX.out (by rw [he0] at hh ⊢;simpa using hh))
     clear hh he0
     go_wp2_with fail
     exact ⟨HZ.out,by simp only [intOf];omega⟩
    ·have he1:s.toList.isEmpty=false:=by simpa using he
     have he2:decide (s.toList≠[])=true:=by simpa using he
     rw [he2] at hh
     clear he he2
     cases b1 with
     | true =>
      have HZ:=Hd (HNX.out (by simpa using hh))
      clear hh
      go_wp2_with fail
      refine C1.out.mono ?_
      rintro e w2 ⟨rfl,rfl⟩
      go_wp2_with fail
      go_roundw
      case rel=>exact HZ.out
      case measure=>simp only [intOf];omega
     | false =>
      cases b2 with
      | true =>
       have HZ:=Hd (HYS.out (by simpa using hh))
       clear hh
       go_wp2_with fail
       refine C1.out.mono ?_
       rintro e w2 ⟨rfl,rfl⟩
       go_wp2_with fail
       refine C2.out.mono ?_
       rintro e w3 ⟨rfl,rfl⟩
       go_wp2_with fail
       exact HZ.out
      | false =>
       have HZ:=Hd (HNX.out (by simpa using hh))
       clear hh
       go_wp2_with fail
       refine C1.out.mono ?_
       rintro e w2 ⟨rfl,rfl⟩
       go_wp2_with fail
       refine C2.out.mono ?_
       rintro e w3 ⟨rfl,rfl⟩
       go_wp2_with fail
       go_roundw
       case rel=>exact HZ.out
       case measure=>simp only [intOf];omega
   ·have hh:=fQ 1 s
    have ix:∀ W:World,(Instr.index 165 (.agg #[.string ⟨#[32,124,124,32]⟩,.string ⟨#[32,38,38,32]⟩,.string ⟨#[32,61,61,32,33,61,32,60,32,60,61,32,62,32,62,61,32]⟩,.string ⟨#[32,43,32,45,32,124,32,94,32]⟩,.string ⟨#[32,42,32,47,32,37,32,60,60,32,62,62,32,38,32,38,94,32]⟩]) (.int .i64 1)).run Tryz.prog W=.ok (.string ⟨#[32,38,38,32]⟩) W:=fun _=>by kernel_rfl
    rw [show jn (lvl 1)=[32,38,38,32] from rfl] at hh
    have C2:=CB.out ⟨#[32,38,38,32]⟩ ((⟨#[32]⟩:ByteArray)++s++⟨#[32]⟩) (by decide) wr HX.out
    rw [HCAT.out,show (⟨#[32,38,38,32]⟩:ByteArray).data.toList=[32,38,38,32] from rfl] at C2
    have C2:=Hd C2
    have HNX:Hid (s.toList∉lvl 1→gvRel s wr (.int .i64 2) wr):=Hd fun hn=>by have h:=HNX.out hn;simpa using h
    have HYS:Hid (s.toList∈lvl 1→Q (.returned (.int .i64 2)) wr):=Hd fun hn=>by have h:=HYS.out hn;simpa using h
    generalize Lib.contains [32,38,38,32] (32::(s.toList++[32]))=b2 at *
    generalize Lib.contains s.toList [32]=b1 at *
    by_cases he:s.toList.isEmpty=true
    ·have he0:s.toList=[]:=by simpa using he
     have HZ:=Hd (HNX.out (by rw [he0] at hh ⊢;simpa using hh))
     clear hh he0
     go_wp2_with fail
     exact ⟨HZ.out,by simp only [intOf];omega⟩
    ·have he1:s.toList.isEmpty=false:=by simpa using he
     have he2:decide (s.toList≠[])=true:=by simpa using he
     rw [he2] at hh
     clear he he2
     cases b1 with
     | true =>
      have HZ:=Hd (HNX.out (by simpa using hh))
      clear hh
      go_wp2_with fail
      refine C1.out.mono ?_
      rintro e w2 ⟨rfl,rfl⟩
      go_wp2_with fail
      go_roundw
      case rel=>exact HZ.out
      case measure=>simp only [intOf];omega
     | false =>
      cases b2 with
      | true =>
       have HZ:=Hd (HYS.out (by simpa using hh))
       clear hh
       go_wp2_with fail
       refine C1.out.mono ?_
       rintro e w2 ⟨rfl,rfl⟩
       go_wp2_with fail
       refine C2.out.mono ?_
       rintro e w3 ⟨rfl,rfl⟩
       go_wp2_with fail
       exact HZ.out
      | false =>
       have HZ:=Hd (HNX.out (by simpa using hh))
       clear hh
       go_wp2_with fail
       refine C1.out.mono ?_
       rintro e w2 ⟨rfl,rfl⟩
       go_wp2_with fail
       refine C2.out.mono ?_
       rintro e w3 ⟨rfl,rfl⟩
       go_wp2_with fail
       go_roundw
       case rel=>exact HZ.out
       case measure=>simp only [intOf];omega
   ·have hh:=fQ 2 s
    have ix:∀ W:World,(Instr.index 165 (.agg #[.string ⟨#[32,124,124,32]⟩,.string ⟨#[32,38,38,32]⟩,.string ⟨#[32,61,61,32,33,61,32,60,32,60,61,32,62,32,62,61,32]⟩,.string ⟨#[32,43,32,45,32,124,32,94,32]⟩,.string ⟨#[32,42,32,47,32,37,32,60,60,32,62,62,32,38,32,38,94,32]⟩]) (.int .i64 2)).run Tryz.prog W=.ok (.string ⟨#[32,61,61,32,33,61,32,60,32,60,61,32,62,32,62,61,32]⟩) W:=fun _=>by kernel_rfl
    rw [show jn (lvl 2)=[32,61,61,32,33,61,32,60,32,60,61,32,62,32,62,61,32] from rfl] at hh
    have C2:=CB.out ⟨#[32,61,61,32,33,61,32,60,32,60,61,32,62,32,62,61,32]⟩ ((⟨#[32]⟩:ByteArray)++s++⟨#[32]⟩) (by decide) wr HX.out
    rw [HCAT.out,show (⟨#[32,61,61,32,33,61,32,60,32,60,61,32,62,32,62,61,32]⟩:ByteArray).data.toList=[32,61,61,32,33,61,32,60,32,60,61,32,62,32,62,61,32] from rfl] at C2
    have C2:=Hd C2
    have HNX:Hid (s.toList∉lvl 2→gvRel s wr (.int .i64 3) wr):=Hd fun hn=>by have h:=HNX.out hn;simpa using h
    have HYS:Hid (s.toList∈lvl 2→Q (.returned (.int .i64 3)) wr):=Hd fun hn=>by have h:=HYS.out hn;simpa using h
    generalize Lib.contains [32,61,61,32,33,61,32,60,32,60,61,32,62,32,62,61,32] (32::(s.toList++[32]))=b2 at *
    generalize Lib.contains s.toList [32]=b1 at *
    by_cases he:s.toList.isEmpty=true
    ·have he0:s.toList=[]:=by simpa using he
     have HZ:=Hd (HNX.out (by rw [he0] at hh ⊢;simpa using hh))
     clear hh he0
     go_wp2_with fail
     exact ⟨HZ.out,by simp only [intOf];omega⟩
    ·have he1:s.toList.isEmpty=false:=by simpa using he
     have he2:decide (s.toList≠[])=true:=by simpa using he
     rw [he2] at hh
     clear he he2
     cases b1 with
     | true =>
      have HZ:=Hd (HNX.out (by simpa using hh))
      clear hh
      go_wp2_with fail
      refine C1.out.mono ?_
      rintro e w2 ⟨rfl,rfl⟩
      go_wp2_with fail
      go_roundw
      case rel=>exact HZ.out
      case measure=>simp only [intOf];omega
     | false =>
      cases b2 with
      | true =>
       have HZ:=Hd (HYS.out (by simpa using hh))
       clear hh
       go_wp2_with fail
       refine C1.out.mono ?_
       rintro e w2 ⟨rfl,rfl⟩
       go_wp2_with fail
       refine C2.out.mono ?_
       rintro e w3 ⟨rfl,rfl⟩
       go_wp2_with fail
       exact HZ.out
      | false =>
       have HZ:=Hd (HNX.out (by simpa using hh))
       clear hh
       go_wp2_with fail
       refine C1.out.mono ?_
       rintro e w2 ⟨rfl,rfl⟩
       go_wp2_with fail
       refine C2.out.mono ?_
       rintro e w3 ⟨rfl,rfl⟩
       go_wp2_with fail
       go_roundw
       case rel=>exact HZ.out
       case measure=>simp only [intOf];omega
   ·have hh:=fQ 3 s
    have ix:∀ W:World,(Instr.index 165 (.agg #[.string ⟨#[32,124,124,32]⟩,.string ⟨#[32,38,38,32]⟩,.string ⟨#[32,61,61,32,33,61,32,60,32,60,61,32,62,32,62,61,32]⟩,.string ⟨#[32,43,32,45,32,124,32,94,32]⟩,.string ⟨#[32,42,32,47,32,37,32,60,60,32,62,62,32,38,32,38,94,32]⟩]) (.int .i64 3)).run Tryz.prog W=.ok (.string ⟨#[32,43,32,45,32,124,32,94,32]⟩) W:=fun _=>by kernel_rfl
    rw [show jn (lvl 3)=[32,43,32,45,32,124,32,94,32] from rfl] at hh
    have C2:=CB.out ⟨#[32,43,32,45,32,124,32,94,32]⟩ ((⟨#[32]⟩:ByteArray)++s++⟨#[32]⟩) (by decide) wr HX.out
    rw [HCAT.out,show (⟨#[32,43,32,45,32,124,32,94,32]⟩:ByteArray).data.toList=[32,43,32,45,32,124,32,94,32] from rfl] at C2
    have C2:=Hd C2
    have HNX:Hid (s.toList∉lvl 3→gvRel s wr (.int .i64 4) wr):=Hd fun hn=>by have h:=HNX.out hn;simpa using h
    have HYS:Hid (s.toList∈lvl 3→Q (.returned (.int .i64 4)) wr):=Hd fun hn=>by have h:=HYS.out hn;simpa using h
    generalize Lib.contains [32,43,32,45,32,124,32,94,32] (32::(s.toList++[32]))=b2 at *
    generalize Lib.contains s.toList [32]=b1 at *
    by_cases he:s.toList.isEmpty=true
    ·have he0:s.toList=[]:=by simpa using he
     have HZ:=Hd (HNX.out (by rw [he0] at hh ⊢;simpa using hh))
     clear hh he0
     go_wp2_with fail
     exact ⟨HZ.out,by simp only [intOf];omega⟩
    ·have he1:s.toList.isEmpty=false:=by simpa using he
     have he2:decide (s.toList≠[])=true:=by simpa using he
     rw [he2] at hh
     clear he he2
     cases b1 with
     | true =>
      have HZ:=Hd (HNX.out (by simpa using hh))
      clear hh
      go_wp2_with fail
      refine C1.out.mono ?_
      rintro e w2 ⟨rfl,rfl⟩
      go_wp2_with fail
      go_roundw
      case rel=>exact HZ.out
      case measure=>simp only [intOf];omega
     | false =>
      cases b2 with
      | true =>
       have HZ:=Hd (HYS.out (by simpa using hh))
       clear hh
       go_wp2_with fail
       refine C1.out.mono ?_
       rintro e w2 ⟨rfl,rfl⟩
       go_wp2_with fail
       refine C2.out.mono ?_
       rintro e w3 ⟨rfl,rfl⟩
       go_wp2_with fail
       exact HZ.out
      | false =>
       have HZ:=Hd (HNX.out (by simpa using hh))
       clear hh
       go_wp2_with fail
       refine C1.out.mono ?_
       rintro e w2 ⟨rfl,rfl⟩
       go_wp2_with fail
       refine C2.out.mono ?_
       rintro e w3 ⟨rfl,rfl⟩
       go_wp2_with fail
       go_roundw
       case rel=>exact HZ.out
       case measure=>simp only [intOf];omega
   ·have hh:=fQ 4 s
    have ix:∀ W:World,(Instr.index 165 (.agg #[.string ⟨#[32,124,124,32]⟩,.string ⟨#[32,38,38,32]⟩,.string ⟨#[32,61,61,32,33,61,32,60,32,60,61,32,62,32,62,61,32]⟩,.string ⟨#[32,43,32,45,32,124,32,94,32]⟩,.string ⟨#[32,42,32,47,32,37,32,60,60,32,62,62,32,38,32,38,94,32]⟩]) (.int .i64 4)).run Tryz.prog W=.ok (.string ⟨#[32,42,32,47,32,37,32,60,60,32,62,62,32,38,32,38,94,32]⟩) W:=fun _=>by kernel_rfl
    rw [show jn (lvl 4)=[32,42,32,47,32,37,32,60,60,32,62,62,32,38,32,38,94,32] from rfl] at hh
    have C2:=CB.out ⟨#[32,42,32,47,32,37,32,60,60,32,62,62,32,38,32,38,94,32]⟩ ((⟨#[32]⟩:ByteArray)++s++⟨#[32]⟩) (by decide) wr HX.out
    rw [HCAT.out,show (⟨#[32,42,32,47,32,37,32,60,60,32,62,62,32,38,32,38,94,32]⟩:ByteArray).data.toList=[32,42,32,47,32,37,32,60,60,32,62,62,32,38,32,38,94,32] from rfl] at C2
    have C2:=Hd C2
    have HNX:Hid (s.toList∉lvl 4→gvRel s wr (.int .i64 5) wr):=Hd fun hn=>by have h:=HNX.out hn;simpa using h
    have HYS:Hid (s.toList∈lvl 4→Q (.returned (.int .i64 5)) wr):=Hd fun hn=>by have h:=HYS.out hn;simpa using h
    generalize Lib.contains [32,42,32,47,32,37,32,60,60,32,62,62,32,38,32,38,94,32] (32::(s.toList++[32]))=b2 at *
    generalize Lib.contains s.toList [32]=b1 at *
    by_cases he:s.toList.isEmpty=true
    ·have he0:s.toList=[]:=by simpa using he
     have HZ:=Hd (HNX.out (by rw [he0] at hh ⊢;simpa using hh))
     clear hh he0
     go_wp2_with fail
     exact ⟨HZ.out,by simp only [intOf];omega⟩
    ·have he1:s.toList.isEmpty=false:=by simpa using he
     have he2:decide (s.toList≠[])=true:=by simpa using he
     rw [he2] at hh
     clear he he2
     cases b1 with
     | true =>
      have HZ:=Hd (HNX.out (by simpa using hh))
      clear hh
      go_wp2_with fail
      refine C1.out.mono ?_
      rintro e w2 ⟨rfl,rfl⟩
      go_wp2_with fail
      go_roundw
      case rel=>exact HZ.out
      case measure=>simp only [intOf];omega
     | false =>
      cases b2 with
      | true =>
       have HZ:=Hd (HYS.out (by simpa using hh))
       clear hh
       go_wp2_with fail
       refine C1.out.mono ?_
       rintro e w2 ⟨rfl,rfl⟩
       go_wp2_with fail
       refine C2.out.mono ?_
       rintro e w3 ⟨rfl,rfl⟩
       go_wp2_with fail
       exact HZ.out
      | false =>
       have HZ:=Hd (HNX.out (by simpa using hh))
       clear hh
       go_wp2_with fail
       refine C1.out.mono ?_
       rintro e w2 ⟨rfl,rfl⟩
       go_wp2_with fail
       refine C2.out.mono ?_
       rintro e w3 ⟨rfl,rfl⟩
       go_wp2_with fail
       go_roundw
       case rel=>exact HZ.out
       case measure=>simp only [intOf];omega
  ·obtain rfl:i=5:=by omega
   have HZ:=Hd (HQ.out 1 wr (by rw [HL.out,zSg HNO.out];rfl) HX.out)
   go_wp2_with fail
   exact HZ.out
end Go.Proofs.YtfalelkfhandfaaGreatDoor
namespace Go.Proofs.YtfalelkfhandfaaGreatDoor
set_option linter.all false

def shiftB (d:Nat) (b:Bnd):Bnd:=(b.1,b.2.1+(d:Int),b.2.2+(d:Int))
theorem zCr {r:RuleM} {l:List Prt} {i:Int} {τ:MSt} (h:atZ r l i=some τ) (hl:l.length≤1048576):(bindsOf r.holes τ).length=r.holes.length∧∀ b∈bindsOf r.holes τ,(0≤b.2.1∧b.2.1≤1048576)∧(0≤b.2.2∧b.2.2≤1048576):=by
 obtain ⟨h1,h2,h3,h4,h5,h6,h7⟩:=jH h
 refine ⟨by unfold bindsOf;rw [List.length_zipWith,h6,Nat.min_self],fun b hb=>?_⟩
 obtain ⟨k,hk,rfl⟩:=List.mem_iff_getElem.1 hb
 have hk2:k<r.holes.length:=by unfold bindsOf at hk;rw [List.length_zipWith] at hk;omega
 obtain ⟨q,hq,hg⟩:=h7 k hk2
 have hk3:k<τ.length:=by omega
 have e:τ[k]=some q:=by rw [List.getElem?_eq_getElem hk3] at hq;exact Option.some.inj hq
 have e2:(bindsOf r.holes τ)[k]=((r.holes[k]).1,(q.1:Int),(q.2:Int)):=by
  apply Option.some.inj
  rw [← List.getElem?_eq_getElem hk]
  unfold bindsOf
  rw [List.getElem?_zipWith,List.getElem?_eq_getElem hk2,List.getElem?_eq_getElem hk3,e]
  rfl
 rw [e2]
 have he:=(zJ (zI h2) (show i.toNat<l.length by omega)).2
 obtain ⟨g1,g2,g3,_⟩:=hg
 simp only []
 omega
end Go.Proofs.YtfalelkfhandfaaGreatDoor
namespace Go.Proofs.YtfalelkfhandfaaGreatDoor
set_option linter.all false
open Go.RowKit

structure HeldM (w:World):Prop where
 T:Tabs w
 M:MaxC w
theorem HeldM.below {w w':World} (h:HeldM w) (hb:Below w.heap.size w w'):HeldM w':=⟨h.T.below hb,h.M.below hb⟩
@[irreducible] def AnswersM (w:World) (e:Ending) (w':World):Prop:=e=.returned (.bool true)∧Below w.heap.size w w'
theorem AnswersM.mk {w w':World} (h:Below w.heap.size w w'):AnswersM w (.returned (.bool true)) w':=by unfold AnswersM;exact ⟨rfl,h⟩
theorem AnswersM.out {w w':World} {e:Ending} (h:AnswersM w e w'):e=.returned (.bool true)∧Below w.heap.size w w':=by unfold AnswersM at h;exact h
end Go.Proofs.YtfalelkfhandfaaGreatDoor
