/- Rules, holes and binds as memory holds them. -/
import Derived.Test.YtfalelkfhandfaaGreatDoorCheckBMs
import Derived.Test.YtfalelkfhandfaaGreatDoorGuardPMs
import Derived.Test.YtfalelkfhandfaaGreatDoorTermMs
namespace Go.Proofs.YtfalelkfhandfaaGreatDoor
set_option linter.all false
open Go.RowKit

theorem Row.cells {w w':World} {v:Value} {n sz:Nat} {cs:List Value} (h:Row w v n sz cs) (hb:Below w.heap.size w w') (hn:0<n) :
  ∃ b off cap,v=.slice (some ⟨b,off,none⟩) n cap∧n≤cap∧b<w.heap.size∧∀ i,i<n*sz→w'.cell? ⟨b,off+i,none⟩=cs[i]?:=by
 obtain ⟨h1,a,cap,hv,hc,hz,h2⟩:=h
 obtain ⟨b,off,ha,hlt,hcell⟩:=h2 hn
 subst ha
 exact ⟨b,off,cap,hv,hc,hlt,fun i hi=>by rw [hb.cell (p:=⟨b,off+i,none⟩) hlt];exact hcell i hi⟩
theorem Row.shape {w:World} {v:Value} {n sz:Nat} {cs:List Value} (h:Row w v n sz cs):∃ a cap,v=.slice a n cap∧n≤cap:=by
 obtain ⟨_,a,cap,hv,hc,_⟩:=h;exact ⟨a,cap,hv,hc⟩
theorem gN {α:Type} {g:α→List Value} {sz:Nat} (hg:∀ x,(g x).length=sz):∀ (l:List α) (i j:Nat) (hi:i<l.length),j<sz→(l.flatMap g)[i*sz+j]?=(g l[i])[j]?
 | x::l,0,j,_,hj=>by
  rw [List.flatMap_cons,Nat.zero_mul,Nat.zero_add,List.getElem?_append_left (by rw [hg];exact hj)];rfl
 | x::l,i+1,j,hi,hj=>by
  have h1:(g x).length≤(i+1)*sz+j:=by rw [hg,Nat.add_mul];omega
  rw [List.flatMap_cons,List.getElem?_append_right h1,hg,show (i+1)*sz+j-sz=i*sz+j by rw [Nat.add_mul];omega]
  rw [gN hg l i j (by simpa using hi) hj]
  rfl
theorem zPe {α:Type} {g:α→List Value} {sz:Nat} (hg:∀ x,(g x).length=sz):∀ l:List α,(l.flatMap g).length=l.length*sz
 | []=>by simp
 | x::l=>by rw [List.flatMap_cons,List.length_append,hg,zPe hg l,List.length_cons,Nat.add_mul];omega
def holeV (h:Hl):List Value:=[.string h.1,.int .u8 (h.2:Int)]
def holesV (hs:List Hl):List Value:=hs.flatMap holeV
def HoleRow (w:World) (v:Value) (hs:List Hl):Prop:=Row w v hs.length 2 (holesV hs)
theorem HoleRow.below {w w':World} {v:Value} {hs:List Hl} (h:HoleRow w v hs) (hb:Below w.heap.size w w'):HoleRow w' v hs:=Row.below h hb
theorem HoleRow.at {w w':World} {a:Option Addr} {n cap:Nat} {hs:List Hl} (h:HoleRow w (.slice a n cap) hs) (hb:Below w.heap.size w w') (hp:0<hs.length) :
  ∃ b off,a=some ⟨b,off,none⟩∧n=hs.length∧hs.length≤cap∧b<w.heap.size∧∀ i (hi:i<hs.length),w'.cell? ⟨b,off+i*2,none⟩=some (.string hs[i].1)∧w'.cell? ⟨b,off+i*2+1,none⟩=some (.int .u8 (hs[i].2:Int)):=by
 obtain ⟨b,off,cap',hv,hc,hlt,hcell⟩:=Row.cells h hb hp
 simp only [Value.slice.injEq] at hv
 obtain ⟨rfl,rfl,rfl⟩:=hv
 refine ⟨b,off,rfl,rfl,hc,hlt,fun i hi=>⟨?_,?_⟩⟩
 ·rw [hcell _ (by omega)]
  have:=gN (g:=holeV) (sz:=2) (fun _=>rfl) hs i 0 hi (by omega)
  rw [Nat.add_zero] at this
  exact this
 ·rw [Nat.add_assoc,hcell _ (by omega)]
  exact gN (g:=holeV) (sz:=2) (fun _=>rfl) hs i 1 hi (by omega)
def bindV (b:Bnd):List Value:=[.string b.1,.int .i64 b.2.1,.int .i64 b.2.2]
def bindsV (bs:List Bnd):List Value:=bs.flatMap bindV
def BindRow (w:World) (v:Value) (bs:List Bnd):Prop:=Row w v bs.length 3 (bindsV bs)
theorem BindRow.below {w w':World} {v:Value} {bs:List Bnd} (h:BindRow w v bs) (hb:Below w.heap.size w w'):BindRow w' v bs:=Row.below h hb
theorem BindRow.at {w w':World} {a:Option Addr} {n cap:Nat} {bs:List Bnd} (h:BindRow w (.slice a n cap) bs) (hb:Below w.heap.size w w') (hp:0<bs.length) :
  ∃ b off,a=some ⟨b,off,none⟩∧n=bs.length∧bs.length≤cap∧b<w.heap.size∧∀ i (hi:i<bs.length),w'.cell? ⟨b,off+i*3,none⟩=some (.string bs[i].1)∧w'.cell? ⟨b,off+i*3+1,none⟩=some (.int .i64 bs[i].2.1)∧w'.cell? ⟨b,off+i*3+2,none⟩=some (.int .i64 bs[i].2.2):=by
 obtain ⟨b,off,cap',hv,hc,hlt,hcell⟩:=Row.cells h hb hp
 simp only [Value.slice.injEq] at hv
 obtain ⟨rfl,rfl,rfl⟩:=hv
 refine ⟨b,off,rfl,rfl,hc,hlt,fun i hi=>⟨?_,?_,?_⟩⟩
 ·rw [hcell _ (by omega)]
  have:=gN (g:=bindV) (sz:=3) (fun _=>rfl) bs i 0 hi (by omega)
  rw [Nat.add_zero] at this
  exact this
 ·rw [Nat.add_assoc,hcell _ (by omega)]
  exact gN (g:=bindV) (sz:=3) (fun _=>rfl) bs i 1 hi (by omega)
 ·rw [Nat.add_assoc,hcell _ (by omega)]
  exact gN (g:=bindV) (sz:=3) (fun _=>rfl) bs i 2 hi (by omega)
def ruleAgg (r:RuleM) (vh vf vb:Value):Value:=.agg #[.string r.nm,.int .u8 (r.goal:Int),vh,vf,vb]
structure RuleIn (w:World) (r:RuleM) (vh vf vb:Value):Prop where
 H:HoleRow w vh r.holes
 F:zD w vf r.fnd
 B:zD w vb r.by'
theorem RuleIn.below {w w':World} {r:RuleM} {vh vf vb:Value} (h:RuleIn w r vh vf vb) (hb:Below w.heap.size w w'):RuleIn w' r vh vf vb:=⟨h.H.below hb,h.F.below hb,h.B.below hb⟩
def SmallL (l:List Prt):Prop:=l.length≤1048576∧∀ p∈l,p.1<256∧p.2.2.size≤1048576
structure SmallR (r:RuleM):Prop where
 n:r.nm.size≤1048576
 g:r.goal<256
 h:r.holes.length≤1048576∧∀ x∈r.holes,x.1.size≤1048576∧x.2<256
 f:SmallL r.fnd
 b:SmallL r.by'
end Go.Proofs.YtfalelkfhandfaaGreatDoor
namespace Go.Proofs.YtfalelkfhandfaaGreatDoor
set_option linter.all false

def bOf (bs:List Bnd) (h:Nat):Nat×Nat:=match bs[h]? with
 | some x=>(x.2.1.toNat,x.2.2.toNat)
 | none=>(0,0)
def BindsIn (bs:List Bnd) (l:List Prt):Prop:=∀ x∈bs,0≤x.2.1∧x.2.1≤x.2.2∧x.2.2≤l.length
theorem zEb {bs:List Bnd} {h:Nat} (hh:h<bs.length):bOf bs h=((bs[h]).2.1.toNat,(bs[h]).2.2.toNat):=by unfold bOf;rw [List.getElem?_eq_getElem hh]
theorem zBg {bs:List Bnd} {l:List Prt} (hb:BindsIn bs l) (h:Nat):(bOf bs h).1≤(bOf bs h).2∧(bOf bs h).2≤l.length:=by
 by_cases hh:h<bs.length
 ·have:=hb _ (List.getElem_mem hh)
  rw [zEb hh]
  simp only []
  omega
 ·unfold bOf
  rw [List.getElem?_eq_none (by omega)]
  simp
section
variable {t l:List Prt} {hs:List Hl} {b:Nat→Nat×Nat}
theorem zGu {m:Nat} (hb:∀ h,(b h).2-(b h).1≤m):∀ n p,sizeS t hs b n p≤n*(m+1)
 | 0,p=>by rw [sizeS];omega
 | n+1,p=>by
  rw [sizeS,Nat.add_mul]
  split
  ·cases zW t hs p with
   | some h =>
    simp only []
    have h1:=hb h
    have h2:=zGu hb n (if yJ t p=50 then p+2 else p+1)
    omega
   | none =>
    simp only []
    have h2:=zGu hb n (p+1)
    omega
  ·omega
theorem zSt (H:vP t hs) {m:Nat} (hb:∀ h,(b h).2-(b h).1≤m) {n p:Nat} (hp:p<t.length) (hn:2*(zC t p-p)≤n):(mPart t l hs b n p).length≤t.length*(m+1):=by
 have h1:=(zPy t l hs b H n).1 p hp hn t.length (by omega)
 have h2:=zGu (t:=t) (hs:=hs) hb t.length p
 omega
theorem zLg {n p h:Nat} (ho:zW t hs p=some h):mPart t l hs b (n+1) p=srcL l (b h).1 (b h).2:=by rw [mPart,ho]
theorem zCz {n p:Nat} (ho:zW t hs p=none) (hp:p<t.length):mPart t l hs b (n+1) p=(((t[p]).1,(cntP ((mKids t l hs b n (p+1) (zC t p)).map (·.1)):Int),(t[p]).2.2),-1)::mKids t l hs b n (p+1) (zC t p):=by
 rw [mPart,ho,List.getElem?_eq_getElem hp]
theorem zVt {n p:Nat}:mKids t l hs b (n+1) p p=[]:=by rw [mKids,if_pos rfl]
theorem zRo {n p pend:Nat} (h:p≠pend):mKids t l hs b (n+1) p pend=mPart t l hs b n p++mKids t l hs b n (zC t p) pend:=by rw [mKids,if_neg h]
theorem zAq (hb:∀ h,(b h).1≤(b h).2∧(b h).2≤l.length) (hv:∀ h,∃ ts,zG (piece l (b h).1 (b h).2)=some ts) (n p:Nat):∃ ts,zG ((mPart t l hs b n p).map (·.1))=some ts:=by
 rw [(zLf t l hs b hb n).1 p]
 obtain ⟨ts,h,_⟩:=(zLo t hs (fun h=>piece l (b h).1 (b h).2) hv n).1 p
 exact ⟨ts,h⟩
end
def intsV (xs:List Int):List Go.Value:=xs.map (Go.Value.int .i64)
end Go.Proofs.YtfalelkfhandfaaGreatDoor
namespace Go.Proofs.YtfalelkfhandfaaGreatDoor
set_option linter.all false

theorem fW {l:List Prt} {ts:List Nat} (h:zG l=some ts):yT l=(ts.length:Int):=by unfold yT;rw [h]
theorem zNg {l:List Prt} (h:0≤yT l):∃ ts,zG l=some ts∧yT l=(ts.length:Int):=by
 cases e:zG l with
 | none=>unfold yT at h;rw [e] at h;simp at h
 | some ts=>exact ⟨ts,rfl,fW e⟩
section
variable (t:List Prt) (hs:List Hl) (b:Nat→Nat×Nat)
theorem zSu:∀ n p,t.length≤p→sizeS t hs b n p=0
 | 0,p,h=>by rw [sizeS]
 | n+1,p,h=>by rw [sizeS,if_neg (by omega)]
end
section
variable {t l:List Prt} {hs:List Hl} {b:Nat→Nat×Nat}
theorem zVu (hl:SmallL l) (i:Nat):(zR l i).1<256∧(zR l i).2.2.size≤1048576:=by
 unfold zR
 by_cases h:i<l.length
 ·have:=hl.2 _ (List.getElem_mem h)
  simpa [List.getD_eq_getElem?_getD,h] using this
 ·rw [List.getD_eq_getElem?_getD,List.getElem?_eq_none (by omega)]
  decide
theorem zRp (ht:SmallL t) (hl:SmallL l):∀ n,(∀ p,∀ x∈mPart t l hs b n p,x.1.1<256∧x.1.2.2.size≤1048576)∧(∀ p pend,∀ x∈mKids t l hs b n p pend,x.1.1<256∧x.1.2.2.size≤1048576)
 | 0=>⟨(fun p x hx=>by rw [mPart] at hx;cases hx),(fun p pend x hx=>by rw [mKids] at hx;cases hx)⟩
 | n+1=>by
  obtain ⟨h1,h2⟩:=zRp ht hl n
  constructor
  ·intro p x hx
   rw [mPart] at hx
   cases ho:zW t hs p with
   | some h =>
    rw [ho] at hx
    simp only [] at hx
    unfold srcL at hx
    obtain ⟨k,_,rfl⟩:=List.mem_map.1 hx
    exact zVu hl k
   | none =>
    rw [ho] at hx
    simp only [] at hx
    cases hp:t[p]? with
    | none=>rw [hp] at hx;cases hx
    | some a =>
     rw [hp] at hx
     simp only [] at hx
     rcases List.mem_cons.1 hx with rfl | hx
     ·obtain ⟨hp',rfl⟩:=List.getElem?_eq_some_iff.1 hp
      have:=ht.2 _ (List.getElem_mem hp')
      exact this
     ·exact h2 _ _ x hx
  ·intro p pend x hx
   rw [mKids] at hx
   split at hx
   ·cases hx
   ·rcases List.mem_append.1 hx with hx | hx
    ·exact h1 _ x hx
    ·exact h2 _ _ x hx
end
end Go.Proofs.YtfalelkfhandfaaGreatDoor
namespace Go.Proofs.YtfalelkfhandfaaGreatDoor
set_option maxRecDepth 100000
set_option maxHeartbeats 32000000
set_option linter.all false
attribute [local irreducible] Calls
open Go.RowKit

def kindU (l:List Prt) (u:Int):Int:=match kindI l u with
 | some k=>(k:Int)
 | none=>69
theorem zRd (l:List Prt) (i:Nat):-1≤upN l i:=by
 unfold upN
 have key:∀ k,-1≤upI l i k:=by
  intro k
  induction k with
  | zero=>rw [upI];omega
  | succ k ih=>rw [upI];split <;> omega
 exact key i
theorem zAd (l:List Prt) (i:Nat):upN l i<(i:Int):=by
 unfold upN
 have key:∀ k,upI l i k<(k:Int):=by
  intro k
  induction k with
  | zero=>rw [upI];omega
  | succ k ih=>rw [upI];split <;> omega
 exact key i
theorem zUo (l:List Prt) (hl:l.length≤1000000000) (v:Value) (u:Int) (h1:-1≤u) (h2:u<l.length) (w:World) (hr:zD w v l) :
  Calls Tryz.prog 106 #[v,.int .i64 u] w fun e w'=>e=.returned (.int .u8 (kindU l u))∧w=w':=by
 have HQ:Hid (∀ x,kindU l u=x→(fun (e:Ending) w'=>e=.returned (.int .u8 (kindU l u))∧w=w') (.returned (.int .u8 x)) w):=Hd fun x h=>⟨by rw [h],rfl⟩
 generalize (fun (e:Ending) w'=>e=.returned (.int .u8 (kindU l u))∧w=w')=Q at *
 obtain ⟨va,vcap,rfl,hvc⟩:=hr.slice
 by_cases hu:u<0
 ·have HX:=Hd (HQ.out 69 (by unfold kindU kindI;rw [if_pos hu]))
  go_enter Tryz.func106,Tryz.ntmps106
  go_wp2_with fail
  exact HX.out
 ·obtain ⟨k,rfl⟩:∃ k:Nat,u=(k:Int):=⟨u.toNat,by omega⟩
  have hk:k<l.length:=by omega
  obtain ⟨b,off,rfl,_,_,hbl,hcell⟩:=hr.at (Below.refl _ _) (show 0<l.length by omega)
  have c0:=(hcell k hk).1
  have hk0:(0:Int)≤(k:Int):=by omega
  have hkl:(k:Int)<l.length:=by omega
  have hneg:¬ (k:Int)<0:=by omega
  have HX:=Hd (HQ.out ((l[k]).1:Int) (by unfold kindU kindI;rw [if_neg hneg,Int.toNat_natCast,List.getElem?_eq_getElem hk];rfl))
  clear hcell hr HQ
  generalize (l[k]).1=x at *
  go_enter Tryz.func106,Tryz.ntmps106
  go_wp2_with fail
  exact HX.out
end Go.Proofs.YtfalelkfhandfaaGreatDoor
namespace Go.Proofs.YtfalelkfhandfaaGreatDoor
set_option linter.all false
open Go.RowKit

def e2Rel (l:List Prt) (w:World) (iv:Value) (wr:World):Prop :=
 ∃ (k:Nat) (E:List Int),iv=.int .i64 ((k:Int)-1)∧k≤l.length∧E.length=l.length∧(∀ j,k≤j→j<l.length→E.getD j 0=(zC l j:Int)) ∧
  wr.heap[w.heap.size]?=some (.cells (E.map (Value.int .i64)).toArray 3 (0,0))∧Below w.heap.size w wr
def e2In (l:List Prt) (w:World) (E:List Int) (i q:Nat) (cv:Value) (wr:World):Prop :=
 ∃ c:Nat,cv=.int .i64 (c:Int)∧c≤q∧wr.heap[w.heap.size]?=some (.cells ((E.set i (zQ l c (i+1):Int)).map (Value.int .i64)).toArray 3 (0,0))∧Below w.heap.size w wr
@[irreducible] def ends2Post (l:List Prt) (w0:World) (e:Ending) (w':World):Prop :=
 ∃ v,e=.returned v∧Below w0.heap.size w0 w'∧w'.ownsRow w0.heap.size 3 1 v l.length ((endsL l).map (Value.int .i64))
theorem zGp {w:World} {B g:Nat} {n:Nat} {E:List Int} (h:w.heap[g]?=some (.cells (E.map (Value.int .i64)).toArray 3 (0,0))) (hB:B≤g) (hn:E.length=n) (hm:n≤1000000000):w.ownsRow B 3 1 (.slice (some ⟨g,0,none⟩) n n) n (E.map (Value.int .i64)) :=
 ⟨by simp [hn],Or.inr ⟨g,n,_,rfl,hB,h,Nat.le_refl _,by unfold maxLen;omega,by simp [hn],by simp;rw [List.take_of_length_le (by simp [hn])]⟩⟩
end Go.Proofs.YtfalelkfhandfaaGreatDoor
namespace Go.Proofs.YtfalelkfhandfaaGreatDoor
set_option linter.all false
attribute [local irreducible] Calls
open Go.RowKit

def partA (p:Prt):Value:=.agg #[.int .u8 (p.1:Int),.int .i64 p.2.1,.string p.2.2]
def lvl (i:Nat):List (List UInt8):=match i with
 | 0=>wL1
 | 1=>wL2
 | 2=>wL3
 | 3=>wL4
 | _=>wL5
theorem zVp (i:Nat):∀ v∈lvl i,(32:UInt8)∉v∧v≠[]:=by
 match i with
 | 0=>decide
 | 1=>decide
 | 2=>decide
 | 3=>decide
 | n+4=>show ∀ v∈wL5,_;decide
theorem zBw (i:Nat) (s:ByteArray):(decide (s.toList≠[])&&(!Lib.contains s.toList [32]&&Lib.contains (jn (lvl i)) (32::(s.toList++[32]))))=decide (s.toList∈lvl i):=zMv (zVp i)
theorem zVq (s:ByteArray):lvW s=if s.toList∈lvl 0 then 1 else if s.toList∈lvl 1 then 2 else if s.toList∈lvl 2 then 3 else if s.toList∈lvl 3 then 4 else if s.toList∈lvl 4 then 5 else 1:=rfl
end Go.Proofs.YtfalelkfhandfaaGreatDoor
namespace Go.Proofs.YtfalelkfhandfaaGreatDoor
set_option maxRecDepth 100000
set_option maxHeartbeats 32000000
set_option linter.all false
attribute [local irreducible] Calls
open Go.RowKit

def gvRel (s:ByteArray) (W1:World) (iv:Value) (wr:World):Prop:=∃ i:Nat,iv=.int .i64 (i:Int)∧i≤5∧(∀ j,j<i→s.toList∉lvl j)∧wr=W1
theorem zZl {s:ByteArray} {i:Nat} (hi:i<5) (hno:∀ j,j<i→s.toList∉lvl j) (h:s.toList∈lvl i):lvW s=i+1:=by
 rw [zVq]
 have h5:i=0∨i=1∨i=2∨i=3∨i=4:=by omega
 rcases h5 with rfl | rfl | rfl | rfl | rfl
 ·rw [if_pos h]
 ·rw [if_neg (hno 0 (by omega)),if_pos h]
 ·rw [if_neg (hno 0 (by omega)),if_neg (hno 1 (by omega)),if_pos h]
 ·rw [if_neg (hno 0 (by omega)),if_neg (hno 1 (by omega)),if_neg (hno 2 (by omega)),if_pos h]
 ·rw [if_neg (hno 0 (by omega)),if_neg (hno 1 (by omega)),if_neg (hno 2 (by omega)),if_neg (hno 3 (by omega)),if_pos h]
theorem zVs {s:ByteArray} (hno:∀ j,j<5→s.toList∉lvl j):lvW s=1:=by
 rw [zVq,if_neg (hno 0 (by omega)),if_neg (hno 1 (by omega)),if_neg (hno 2 (by omega)),if_neg (hno 3 (by omega)),if_neg (hno 4 (by omega))]
theorem zFb (p:Prt) (hs:p.2.2.size≤1048576) (w:World) (hM:MaxC w) :
  Calls Tryz.prog 86 #[partA p] w fun e w'=>e=.returned (.int .i64 (yL p:Int))∧Below w.heap.size w w':=by
 have HQ:Hid (∀ x w',(yL p:Int)=x→Below w.heap.size w w'→(fun (e:Ending) w'=>e=.returned (.int .i64 (yL p:Int))∧Below w.heap.size w w') (.returned (.int .i64 x)) w'):=Hd fun x w' h hb=>⟨by rw [h],hb⟩
 generalize (fun (e:Ending) w'=>e=.returned (.int .i64 (yL p:Int))∧Below w.heap.size w w')=Q at *
 obtain ⟨k,n,s⟩:=p
 unfold partA
 simp only [] at hs HQ ⊢
 have HX:=Hd ((Below.refl w.heap.size w).alloc (Nat.le_refl _) (.cells #[.int .u8 (k:Int),.int .i64 n,.string s] 38))
 have HPK:Hid (PK (w.alloc (.cells #[.int .u8 (k:Int),.int .i64 n,.string s] 38)) w.heap.size (k,n,s)):=Hd (PK.alloc_new w (k,n,s))
 by_cases h36:k=36
 ·subst h36
  have HZ:=Hd (HQ.out 6 _ rfl HX.out)
  go_enter Tryz.func86,Tryz.ntmps86
  go_wp2_with fail
  exact HZ.out
 by_cases h35:k=35
 ·subst h35
  have HZ:=Hd (HQ.out 6 _ rfl HX.out)
  go_enter Tryz.func86,Tryz.ntmps86
  go_wp2_with fail
  exact HZ.out
 have g36:((k:Int) == 36)=false:=by rw [beq_eq_false_iff_ne];omega
 have g35:((k:Int) == 35)=false:=by rw [beq_eq_false_iff_ne];omega
 by_cases h37:k=37
 case neg =>
  have g37:((k:Int) == 37)=false:=by rw [beq_eq_false_iff_ne];omega
  have HZ:=Hd (HQ.out 7 _ (by unfold yL;rw [if_neg (by simp;omega),if_neg h37];rfl) HX.out)
  clear h35 h36 h37
  go_enter Tryz.func86,Tryz.ntmps86
  go_wp2_with fail
  exact HZ.out
 subst h37
 rw [show ((37:Nat):Int)=(37:Int) from rfl] at HX HPK ⊢
 have HL:Hid (yL (37,n,s)=lvW s):=Hd (by unfold yL;rw [if_neg (fun h=>by rcases h with h | h <;> simp at h),if_pos rfl])
 have CB:=Hd (fun (a b:ByteArray) (ha:a.size≤2000000) W (hb:Below w.heap.size w W)=>show Calls Tryz.prog 105 #[.string a,.string b] W fun e w'=>e=.returned (.bool (Lib.contains a.data.toList b.data.toList))∧w'=W by
  obtain ⟨m,hm,_⟩:=(hM.below hb)
  exact Tryz.strings_Contains a b m W (by omega) hm)
 have hz1:¬ 9223372036854775807<(⟨#[32]⟩:ByteArray).size+s.size:=by show ¬ _<1+_;omega
 have hz2:¬ 9223372036854775807<((⟨#[32]⟩:ByteArray)++s).size+(⟨#[32]⟩:ByteArray).size:=by rw [ByteArray.size_append];show ¬ _<1+_+1;omega
 have hcat:((⟨#[32]⟩:ByteArray)++s++⟨#[32]⟩).data.toList=32::(s.toList++[32]):=by rw [ByteArray.data_append,ByteArray.data_append,ByteArray.toList_eq];simp
 have HCAT:=Hd hcat
 have e2:s.data.toList=s.toList:=(ByteArray.toList_eq s).symm
 have HE2:=Hd e2
 clear hcat e2 hM h35 h36 g35 g36
 go_enter Tryz.func86,Tryz.ntmps86
 go_upto_region 1 with (fail)
 generalize w.alloc (.cells #[.int .u8 (37:Int),.int .i64 n,.string s] 38)=W1 at *
 have e3:=HPK.out.c2
 have e0:=HPK.out.c0
 simp only [] at e3 e0
 go_wp2_with fail
 clear e0
 go_loopw [13] (fun iv wr=>gvRel s W1 iv wr) (fun iv _=>5-(intOf iv).toNat)
 case atStart=>exact ⟨0,rfl,by omega,fun j hj=>absurd hj (Nat.not_lt_zero _),rfl⟩
 case round =>
  obtain ⟨i,rfl,hi,hno,rfl⟩:=hrel
  have HNO:=Hd hno
  clear hno
  by_cases hlt:i<5
  ·have hh:=zBw i s
   have HNX:Hid (s.toList∉lvl i→gvRel s wr (.int .i64 ((i:Int)+1)) wr):=Hd fun hn=>⟨i+1,by push_cast;rfl,by omega,fun j hj=>by
    by_cases e:j=i
    ·subst e;exact hn
    ·exact HNO.out j (by omega),rfl⟩
   have HYS:Hid (s.toList∈lvl i→Q (.returned (.int .i64 ((i:Int)+1))) wr):=Hd fun hn=>HQ.out _ wr (by rw [HL.out,zZl hlt HNO.out hn];push_cast;rfl) HX.out
   clear hh
   have hi5:i=0∨i=1∨i=2∨i=3∨i=4:=by omega
   have C1:=CB.out s ⟨#[32]⟩ (by omega) wr HX.out
   rw [HE2.out,show (⟨#[32]⟩:ByteArray).data.toList=[32] from rfl] at C1
   have C1:=Hd C1
   rcases hi5 with rfl | rfl | rfl | rfl | rfl
   ·have hh:=zBw 0 s
    have ix:∀ W:World,(Instr.index 165 (.agg #[.string ⟨#[32,124,124,32]⟩,.string ⟨#[32,38,38,32]⟩,.string ⟨#[32,61,61,32,33,61,32,60,32,60,61,32,62,32,62,61,32]⟩,.string ⟨#[32,43,32,45,32,124,32,94,32]⟩,.string ⟨#[32,42,32,47,32,37,32,60,60,32,62,62,32,38,32,38,94,32]⟩]) (.int .i64 0)).run Tryz.prog W=.ok (.string ⟨#[32,124,124,32]⟩) W:=fun _=>by kernel_rfl
    rw [show jn (lvl 0)=[32,124,124,32] from rfl] at hh
    have C2:=CB.out ⟨#[32,124,124,32]⟩ ((⟨#[32]⟩:ByteArray)++s++⟨#[32]⟩) (by decide) wr HX.out
    rw [HCAT.out,show (⟨#[32,124,124,32]⟩:ByteArray).data.toList=[32,124,124,32] from rfl] at C2
    have C2:=Hd C2
    have HNX:Hid (s.toList∉lvl 0→gvRel s wr (.int .i64 1) wr):=Hd fun hn=>by have h:=HNX.out hn;simpa using h
    have HYS:Hid (s.toList∈lvl 0→Q (.returned (.int .i64 1)) wr):=Hd fun hn=>by have h:=HYS.out hn;simpa using h
    generalize Lib.contains [32,124,124,32] (32::(s.toList++[32]))=b2 at *
    generalize Lib.contains s.toList [32]=b1 at *
    by_cases he:s.toList.isEmpty=true
    ·have he0:s.toList=[]:=by simpa using he
     have HZ:=Hd (HNX.out (by rw [he0] at hh ⊢;simpa using hh))
     clear hh he0
     go_wp2_with fail
     exact ⟨HZ.out,by simp only [intOf];omega⟩
    ·have he1:s.toList.isEmpty=false:=by simpa using he
     have he2:decide (s.toList≠[])=true:=by simpa using he
     rw [he2] at hh
     clear he he2
     cases b1 with
     | true =>
      have HZ:=Hd (HNX.out (by simpa using hh))
      clear hh
      go_wp2_with fail
      refine C1.out.mono ?_
      rintro e w2 ⟨rfl,rfl⟩
      go_wp2_with fail
      go_roundw
      case rel=>exact HZ.out
      case measure=>simp only [intOf];omega
     | false =>
      cases b2 with
      | true =>
       have HZ:=Hd (HYS.out (by simpa using hh))
       clear hh
       go_wp2_with fail
       refine C1.out.mono ?_
       rintro e w2 ⟨rfl,rfl⟩
       go_wp2_with fail
       refine C2.out.mono ?_
       rintro e w3 ⟨rfl,rfl⟩
       go_wp2_with fail
       exact HZ.out
      | false =>
       have HZ:=Hd (HNX.out (by simpa using hh))
       clear hh
       go_wp2_with fail
       refine C1.out.mono ?_
       rintro e w2 ⟨rfl,rfl⟩
       go_wp2_with fail
       refine C2.out.mono ?_
       rintro e w3 ⟨rfl,rfl⟩
       go_wp2_with fail
       go_roundw
       case rel=>exact HZ.out
       case measure=>simp only [intOf];omega
   ·have hh:=zBw 1 s
    have ix:∀ W:World,(Instr.index 165 (.agg #[.string ⟨#[32,124,124,32]⟩,.string ⟨#[32,38,38,32]⟩,.string ⟨#[32,61,61,32,33,61,32,60,32,60,61,32,62,32,62,61,32]⟩,.string ⟨#[32,43,32,45,32,124,32,94,32]⟩,.string ⟨#[32,42,32,47,32,37,32,60,60,32,62,62,32,38,32,38,94,32]⟩]) (.int .i64 1)).run Tryz.prog W=.ok (.string ⟨#[32,38,38,32]⟩) W:=fun _=>by kernel_rfl
    rw [show jn (lvl 1)=[32,38,38,32] from rfl] at hh
    have C2:=CB.out ⟨#[32,38,38,32]⟩ ((⟨#[32]⟩:ByteArray)++s++⟨#[32]⟩) (by decide) wr HX.out
    rw [HCAT.out,show (⟨#[32,38,38,32]⟩:ByteArray).data.toList=[32,38,38,32] from rfl] at C2
    have C2:=Hd C2
    have HNX:Hid (s.toList∉lvl 1→gvRel s wr (.int .i64 2) wr):=Hd fun hn=>by have h:=HNX.out hn;simpa using h
    have HYS:Hid (s.toList∈lvl 1→Q (.returned (.int .i64 2)) wr):=Hd fun hn=>by have h:=HYS.out hn;simpa using h
    generalize Lib.contains [32,38,38,32] (32::(s.toList++[32]))=b2 at *
    generalize Lib.contains s.toList [32]=b1 at *
    by_cases he:s.toList.isEmpty=true
    ·have he0:s.toList=[]:=by simpa using he
     have HZ:=Hd (HNX.out (by rw [he0] at hh ⊢;simpa using hh))
     clear hh he0
     go_wp2_with fail
     exact ⟨HZ.out,by simp only [intOf];omega⟩
    ·have he1:s.toList.isEmpty=false:=by simpa using he
     have he2:decide (s.toList≠[])=true:=by simpa using he
     rw [he2] at hh
     clear he he2
     cases b1 with
     | true =>
      have HZ:=Hd (HNX.out (by simpa using hh))
      clear hh
      go_wp2_with fail
      refine C1.out.mono ?_
      rintro e w2 ⟨rfl,rfl⟩
      go_wp2_with fail
      go_roundw
      case rel=>exact HZ.out
      case measure=>simp only [intOf];omega
     | false =>
      cases b2 with
      | true =>
       have HZ:=Hd (HYS.out (by simpa using hh))
       clear hh
       go_wp2_with fail
       refine C1.out.mono ?_
       rintro e w2 ⟨rfl,rfl⟩
       go_wp2_with fail
       refine C2.out.mono ?_
       rintro e w3 ⟨rfl,rfl⟩
       go_wp2_with fail
       exact HZ.out
      | false =>
       have HZ:=Hd (HNX.out (by simpa using hh))
       clear hh
       go_wp2_with fail
       refine C1.out.mono ?_
       rintro e w2 ⟨rfl,rfl⟩
       go_wp2_with fail
       refine C2.out.mono ?_
       rintro e w3 ⟨rfl,rfl⟩
       go_wp2_with fail
       go_roundw
       case rel=>exact HZ.out
       case measure=>simp only [intOf];omega
   ·have hh:=zBw 2 s
    have ix:∀ W:World,(Instr.index 165 (.agg #[.string ⟨#[32,124,124,32]⟩,.string ⟨#[32,38,38,32]⟩,.string ⟨#[32,61,61,32,33,61,32,60,32,60,61,32,62,32,62,61,32]⟩,.string ⟨#[32,43,32,45,32,124,32,94,32]⟩,.string ⟨#[32,42,32,47,32,37,32,60,60,32,62,62,32,38,32,38,94,32]⟩]) (.int .i64 2)).run Tryz.prog W=.ok (.string ⟨#[32,61,61,32,33,61,32,60,32,60,61,32,62,32,62,61,32]⟩) W:=fun _=>by kernel_rfl
    rw [show jn (lvl 2)=[32,61,61,32,33,61,32,60,32,60,61,32,62,32,62,61,32] from rfl] at hh
    have C2:=CB.out ⟨#[32,61,61,32,33,61,32,60,32,60,61,32,62,32,62,61,32]⟩ ((⟨#[32]⟩:ByteArray)++s++⟨#[32]⟩) (by decide) wr HX.out
    rw [HCAT.out,show (⟨#[32,61,61,32,33,61,32,60,32,60,61,32,62,32,62,61,32]⟩:ByteArray).data.toList=[32,61,61,32,33,61,32,60,32,60,61,32,62,32,62,61,32] from rfl] at C2
    have C2:=Hd C2
    have HNX:Hid (s.toList∉lvl 2→gvRel s wr (.int .i64 3) wr):=Hd fun hn=>by have h:=HNX.out hn;simpa using h
    have HYS:Hid (s.toList∈lvl 2→Q (.returned (.int .i64 3)) wr):=Hd fun hn=>by have h:=HYS.out hn;simpa using h
    generalize Lib.contains [32,61,61,32,33,61,32,60,32,60,61,32,62,32,62,61,32] (32::(s.toList++[32]))=b2 at *
    generalize Lib.contains s.toList [32]=b1 at *
    by_cases he:s.toList.isEmpty=true
    ·have he0:s.toList=[]:=by simpa using he
     have HZ:=Hd (HNX.out (by rw [he0] at hh ⊢;simpa using hh))
     clear hh he0
     go_wp2_with fail
     exact ⟨HZ.out,by simp only [intOf];omega⟩
    ·have he1:s.toList.isEmpty=false:=by simpa using he
     have he2:decide (s.toList≠[])=true:=by simpa using he
     rw [he2] at hh
     clear he he2
     cases b1 with
     | true =>
      have HZ:=Hd (HNX.out (by simpa using hh))
      clear hh
      go_wp2_with fail
      refine C1.out.mono ?_
      rintro e w2 ⟨rfl,rfl⟩
      go_wp2_with fail
      go_roundw
      case rel=>exact HZ.out
      case measure=>simp only [intOf];omega
     | false =>
      cases b2 with
      | true =>
       have HZ:=Hd (HYS.out (by simpa using hh))
       clear hh
       go_wp2_with fail
       refine C1.out.mono ?_
       rintro e w2 ⟨rfl,rfl⟩
       go_wp2_with fail
       refine C2.out.mono ?_
       rintro e w3 ⟨rfl,rfl⟩
       go_wp2_with fail
       exact HZ.out
      | false =>
       have HZ:=Hd (HNX.out (by simpa using hh))
       clear hh
       go_wp2_with fail
       refine C1.out.mono ?_
       rintro e w2 ⟨rfl,rfl⟩
       go_wp2_with fail
       refine C2.out.mono ?_
       rintro e w3 ⟨rfl,rfl⟩
       go_wp2_with fail
       go_roundw
       case rel=>exact HZ.out
       case measure=>simp only [intOf];omega
   ·have hh:=zBw 3 s
    have ix:∀ W:World,(Instr.index 165 (.agg #[.string ⟨#[32,124,124,32]⟩,.string ⟨#[32,38,38,32]⟩,.string ⟨#[32,61,61,32,33,61,32,60,32,60,61,32,62,32,62,61,32]⟩,.string ⟨#[32,43,32,45,32,124,32,94,32]⟩,.string ⟨#[32,42,32,47,32,37,32,60,60,32,62,62,32,38,32,38,94,32]⟩]) (.int .i64 3)).run Tryz.prog W=.ok (.string ⟨#[32,43,32,45,32,124,32,94,32]⟩) W:=fun _=>by kernel_rfl
    rw [show jn (lvl 3)=[32,43,32,45,32,124,32,94,32] from rfl] at hh
    have C2:=CB.out ⟨#[32,43,32,45,32,124,32,94,32]⟩ ((⟨#[32]⟩:ByteArray)++s++⟨#[32]⟩) (by decide) wr HX.out
    rw [HCAT.out,show (⟨#[32,43,32,45,32,124,32,94,32]⟩:ByteArray).data.toList=[32,43,32,45,32,124,32,94,32] from rfl] at C2
    have C2:=Hd C2
    have HNX:Hid (s.toList∉lvl 3→gvRel s wr (.int .i64 4) wr):=Hd fun hn=>by have h:=HNX.out hn;simpa using h
    have HYS:Hid (s.toList∈lvl 3→Q (.returned (.int .i64 4)) wr):=Hd fun hn=>by have h:=HYS.out hn;simpa using h
    generalize Lib.contains [32,43,32,45,32,124,32,94,32] (32::(s.toList++[32]))=b2 at *
    generalize Lib.contains s.toList [32]=b1 at *
    by_cases he:s.toList.isEmpty=true
    ·have he0:s.toList=[]:=by simpa using he
     have HZ:=Hd (HNX.out (by rw [he0] at hh ⊢;simpa using hh))
     clear hh he0
     go_wp2_with fail
     exact ⟨HZ.out,by simp only [intOf];omega⟩
    ·have he1:s.toList.isEmpty=false:=by simpa using he
     have he2:decide (s.toList≠[])=true:=by simpa using he
     rw [he2] at hh
     clear he he2
     cases b1 with
     | true =>
      have HZ:=Hd (HNX.out (by simpa using hh))
      clear hh
      go_wp2_with fail
      refine C1.out.mono ?_
      rintro e w2 ⟨rfl,rfl⟩
      go_wp2_with fail
      go_roundw
      case rel=>exact HZ.out
      case measure=>simp only [intOf];omega
     | false =>
      cases b2 with
      | true =>
       have HZ:=Hd (HYS.out (by simpa using hh))
       clear hh
       go_wp2_with fail
       refine C1.out.mono ?_
       rintro e w2 ⟨rfl,rfl⟩
       go_wp2_with fail
       refine C2.out.mono ?_
       rintro e w3 ⟨rfl,rfl⟩
       go_wp2_with fail
       exact HZ.out
      | false =>
       have HZ:=Hd (HNX.out (by simpa using hh))
       clear hh
       go_wp2_with fail
       refine C1.out.mono ?_
       rintro e w2 ⟨rfl,rfl⟩
       go_wp2_with fail
       refine C2.out.mono ?_
       rintro e w3 ⟨rfl,rfl⟩
       go_wp2_with fail
       go_roundw
       case rel=>exact HZ.out
       case measure=>simp only [intOf];omega
   ·have hh:=zBw 4 s
    have ix:∀ W:World,(Instr.index 165 (.agg #[.string ⟨#[32,124,124,32]⟩,.string ⟨#[32,38,38,32]⟩,.string ⟨#[32,61,61,32,33,61,32,60,32,60,61,32,62,32,62,61,32]⟩,.string ⟨#[32,43,32,45,32,124,32,94,32]⟩,.string ⟨#[32,42,32,47,32,37,32,60,60,32,62,62,32,38,32,38,94,32]⟩]) (.int .i64 4)).run Tryz.prog W=.ok (.string ⟨#[32,42,32,47,32,37,32,60,60,32,62,62,32,38,32,38,94,32]⟩) W:=fun _=>by kernel_rfl
    rw [show jn (lvl 4)=[32,42,32,47,32,37,32,60,60,32,62,62,32,38,32,38,94,32] from rfl] at hh
    have C2:=CB.out ⟨#[32,42,32,47,32,37,32,60,60,32,62,62,32,38,32,38,94,32]⟩ ((⟨#[32]⟩:ByteArray)++s++⟨#[32]⟩) (by decide) wr HX.out
    rw [HCAT.out,show (⟨#[32,42,32,47,32,37,32,60,60,32,62,62,32,38,32,38,94,32]⟩:ByteArray).data.toList=[32,42,32,47,32,37,32,60,60,32,62,62,32,38,32,38,94,32] from rfl] at C2
    have C2:=Hd C2
    have HNX:Hid (s.toList∉lvl 4→gvRel s wr (.int .i64 5) wr):=Hd fun hn=>by have h:=HNX.out hn;simpa using h
    have HYS:Hid (s.toList∈lvl 4→Q (.returned (.int .i64 5)) wr):=Hd fun hn=>by have h:=HYS.out hn;simpa using h
    generalize Lib.contains [32,42,32,47,32,37,32,60,60,32,62,62,32,38,32,38,94,32] (32::(s.toList++[32]))=b2 at *
    generalize Lib.contains s.toList [32]=b1 at *
    by_cases he:s.toList.isEmpty=true
    ·have he0:s.toList=[]:=by simpa using he
     have HZ:=Hd (HNX.out (by rw [he0] at hh ⊢;simpa using hh))
     clear hh he0
     go_wp2_with fail
     exact ⟨HZ.out,by simp only [intOf];omega⟩
    ·have he1:s.toList.isEmpty=false:=by simpa using he
     have he2:decide (s.toList≠[])=true:=by simpa using he
     rw [he2] at hh
     clear he he2
     cases b1 with
     | true =>
      have HZ:=Hd (HNX.out (by simpa using hh))
      clear hh
      go_wp2_with fail
      refine C1.out.mono ?_
      rintro e w2 ⟨rfl,rfl⟩
      go_wp2_with fail
      go_roundw
      case rel=>exact HZ.out
      case measure=>simp only [intOf];omega
     | false =>
      cases b2 with
      | true =>
       have HZ:=Hd (HYS.out (by simpa using hh))
       clear hh
       go_wp2_with fail
       refine C1.out.mono ?_
       rintro e w2 ⟨rfl,rfl⟩
       go_wp2_with fail
       refine C2.out.mono ?_
       rintro e w3 ⟨rfl,rfl⟩
       go_wp2_with fail
       exact HZ.out
      | false =>
       have HZ:=Hd (HNX.out (by simpa using hh))
       clear hh
       go_wp2_with fail
       refine C1.out.mono ?_
       rintro e w2 ⟨rfl,rfl⟩
       go_wp2_with fail
       refine C2.out.mono ?_
       rintro e w3 ⟨rfl,rfl⟩
       go_wp2_with fail
       go_roundw
       case rel=>exact HZ.out
       case measure=>simp only [intOf];omega
  ·obtain rfl:i=5:=by omega
   have HZ:=Hd (HQ.out 1 wr (by rw [HL.out,zVs HNO.out];rfl) HX.out)
   go_wp2_with fail
   exact HZ.out
end Go.Proofs.YtfalelkfhandfaaGreatDoor
