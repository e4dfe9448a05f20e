/- Layer 17 in plain Lean: the instance by what is found is the part; an instance is found; where a part stands makes no odds. -/
import Derived.Test.YtfalelkfhandfaaGreatDoorPackMs
import Derived.Test.YtfalelkfhandfaaGreatDoorU8bMs
import Derived.Test.YtfalelkfhandfaaGreatDoorQuotedPMs
import Derived.Lib.SlTrimSet
namespace Go.Proofs.YtfalelkfhandfaaGreatDoor
set_option linter.all false

theorem zBy {l:List Prt} {a b:Nat} (h1:a≤b) (h2:b≤l.length):(piece l a b).length=b-a:=by
 unfold piece;rw [List.length_take,List.length_drop];omega
theorem zGy {l:List Prt} {a b:Nat} (h1:a≤b):l.drop a=piece l a b++l.drop b:=by
 unfold piece
 have:=List.take_append_drop (b-a) (l.drop a)
 rw [List.drop_drop,show a+(b-a)=b by omega] at this
 exact this.symm
theorem zJu {l:List Prt} {us:List Nat} (hl:zG l=some us) {P R:List Prt} {vs:List Nat} (hP:zG P=some vs) {i:Nat} (hd:l.drop i=P++R) {x:Nat} (hx:x<P.length):zC l (i+x)=i+zC P x:=by
 obtain ⟨t,ts,h1,h2,h3,h4⟩:=zMl hP hx
 have hd2:l.drop (i+x)=P.drop x++R:=by
  rw [← List.drop_drop,hd,List.drop_append_of_le_length (by omega)]
 obtain ⟨rs,hr⟩:=fF hl (i+P.length)
 have hR:l.drop (i+P.length)=R:=by rw [← List.drop_drop,hd,List.drop_left]
 rw [hR] at hr
 have h5:=jY h1 hr
 rw [← hd2] at h5
 unfold zC
 rw [vN h5,vN h1];omega
theorem zRv {l:List Prt} {us:List Nat} (hl:zG l=some us) {b:Nat} (hb:b≤l.length):∀ (ts:List Nat) (A R:List Prt) (a:Nat),zG A=some ts→l.drop a=A++R→a+A.length≤b→advT l ts.length a b=some (a+A.length)
 | [],A,R,a,hA,hd,hle=>by
  have:=(yM hA).1
  simp at this
  rw [List.length_nil,advT,← this];rfl
 | t::ts,A,R,a,hA,hd,hle=>by
  have hs:=yM hA
  have ht:=hs.2.2 t (by simp)
  have hsum:=hs.1
  rw [List.sum_cons] at hsum
  have hk:=fG 1 hA (by simp)
  simp only [List.take_succ_cons,List.take_zero,List.sum_cons,List.sum_nil,Nat.add_zero,List.drop_succ_cons,List.drop_zero] at hk
  have he:zC l a=a+t:=by
   have:=zJu hl hA (i:=a) (R:=R) hd (x:=0) (by omega)
   rw [Nat.add_zero] at this
   rw [this]
   unfold zC
   rw [List.drop_zero,vN hA];omega
  rw [List.length_cons,advT,if_pos (by omega),he]
  have hd2:l.drop (a+t)=A.drop t++R:=by
   rw [← List.drop_drop,hd,List.drop_append_of_le_length (by omega)]
  rw [zRv hl hb ts (A.drop t) R (a+t) hk hd2 (by rw [List.length_drop];omega),List.length_drop]
  congr 1;omega

section
variable (f:List Prt) (hs:List Hl) (v:Nat→List Prt)
mutual
def iPart:Nat→Nat→List Prt
 | 0,_=>[]
 | n+1,p=>match zW f hs p with
  | some h=>v h
  | none=>match f[p]? with
   | some a=>(a.1,(cntP (iKids n (p+1) (zC f p)):Int),a.2.2)::iKids n (p+1) (zC f p)
   | none=>[]
def iKids:Nat→Nat→Nat→List Prt
 | 0,_,_=>[]
 | n+1,p,pend=>if p=pend then [] else iPart n p++iKids n (zC f p) pend
end
theorem zWe {a b:List Prt} {us ts:List Nat} (h:zG a=some us) (g:zG b=some ts):cntP (a++b)=us.length+ts.length:=by
 unfold cntP;rw [jY h g];simp
theorem fK {a:List Prt} {us:List Nat} (h:zG a=some us):cntP a=us.length:=by unfold cntP;rw [h]
theorem zLo (hv:∀ h,∃ ts,zG (v h)=some ts):∀ n,(∀ p,∃ ts,zG (iPart f hs v n p)=some ts∧(zW f hs p=none→p<f.length→0<n→ts.length=1))∧(∀ p pend,∃ ts,zG (iKids f hs v n p pend)=some ts)
 | 0=>⟨(fun p=>⟨[],by rw [iPart];rfl,fun _ _ h=>by omega⟩),(fun _ _=>⟨[],by rw [iKids];rfl⟩)⟩
 | n+1=>by
  obtain ⟨h1,h2⟩:=zLo hv n
  constructor
  ·intro p
   rw [iPart]
   cases ho:zW f hs p with
   | some h =>
    obtain ⟨ts,ht⟩:=hv h
    exact ⟨ts,ht,fun e=>by cases e⟩
   | none =>
    simp only []
    cases ha:f[p]? with
    | none =>
     refine ⟨[],rfl,fun _ hp=>?_⟩
     rw [List.getElem?_eq_getElem hp] at ha;cases ha
    | some a =>
     simp only []
     obtain ⟨ks,hk⟩:=h2 (p+1) (zC f p)
     rw [fE hk (by simp) (by rw [fK hk];exact Int.le_refl _)]
     exact ⟨_,rfl,fun _ _ _=>by rw [fK hk];simp⟩
  ·intro p pend
   rw [iKids]
   split
   ·exact ⟨[],rfl⟩
   ·obtain ⟨ts,ht,_⟩:=h1 p
    obtain ⟨ks,hk⟩:=h2 (zC f p) pend
    exact ⟨_,jY ht hk⟩
end
section
variable (f l:List Prt) (hs:List Hl)
def Con (v:Nat→List Prt) (σ:MSt):Prop:=σ.length=hs.length∧∀ (h:Nat) (q:Nat×Nat),σ[h]?=some (some q)→piece l q.1 q.2=v h
theorem Con.bind {v:Nat→List Prt} {σ:MSt} (hc:Con l hs v σ) {h a b:Nat} (hh:h<hs.length) (e:piece l a b=v h):∃ τ,bindS l σ h a b=some τ∧Con l hs v τ:=by
 have hl:h<σ.length:=by rw [hc.1];exact hh
 unfold bindS
 rw [List.getElem?_eq_getElem hl]
 cases hq:σ[h] with
 | some q =>
  simp only []
  rw [if_pos (by rw [hc.2 h q (by rw [List.getElem?_eq_getElem hl,hq]),e])]
  exact ⟨σ,rfl,hc⟩
 | none =>
  simp only []
  refine ⟨_,rfl,by rw [List.length_set];exact hc.1,fun k q hk=>?_⟩
  by_cases c:h=k
  ·subst c
   rw [List.getElem?_set_self hl] at hk
   cases hk;exact e
  ·rw [List.getElem?_set_ne c] at hk;exact hc.2 k q hk
end
def shift (d:Nat) (σ:MSt):MSt:=σ.map fun o=>o.map fun q=>(q.1+d,q.2+d)
theorem zTa (d:Nat) (σ:MSt) (h:Nat):(shift d σ)[h]?=σ[h]?.map fun o=>o.map fun q=>(q.1+d,q.2+d):=by unfold shift;rw [List.getElem?_map]
structure Sits (P l:List Prt) (d:Nat):Prop where
 rP:∃ us,zG P=some us
 rL:∃ us,zG l=some us
 dr:∃ R,l.drop d=P++R
theorem Sits.len {P l:List Prt} {d:Nat} (h:Sits P l d):d+P.length≤l.length∨P=[]:=by
 obtain ⟨R,hR⟩:=h.dr
 have:=congrArg List.length hR
 rw [List.length_drop,List.length_append] at this
 rcases Nat.eq_zero_or_pos P.length with e | e
 ·exact Or.inr (List.length_eq_zero_iff.1 e)
 ·left;omega
theorem Sits.end_ {P l:List Prt} {d:Nat} (h:Sits P l d) {x:Nat} (hx:x<P.length):zC l (x+d)=zC P x+d:=by
 obtain ⟨us,hl⟩:=h.rL
 obtain ⟨vs,hP⟩:=h.rP
 obtain ⟨R,hR⟩:=h.dr
 have:=zJu hl hP hR hx
 rw [show x+d=d+x by omega,this];omega
theorem Sits.get {P l:List Prt} {d:Nat} (h:Sits P l d) {x:Nat} (hx:x<P.length):l[x+d]?=P[x]?:=by
 obtain ⟨R,hR⟩:=h.dr
 have:(l.drop d)[x]?=P[x]?:=by rw [hR,List.getElem?_append_left hx]
 rw [List.getElem?_drop] at this
 rw [show x+d=d+x by omega];exact this
theorem Sits.pc {P l:List Prt} {d:Nat} (h:Sits P l d) {a b:Nat} (hb:b≤P.length):piece l (a+d) (b+d)=piece P a b:=by
 obtain ⟨R,hR⟩:=h.dr
 unfold piece
 rw [show b+d-(a+d)=b-a by omega,show a+d=d+a by omega,← List.drop_drop,hR]
 by_cases c:a≤P.length
 ·rw [List.drop_append_of_le_length c,List.take_append_of_le_length (by rw [List.length_drop];omega)]
 ·rw [show b-a=0 by omega,List.take_zero,List.take_zero]
theorem Sits.bind {P l:List Prt} {d:Nat} (hS:Sits P l d) {σ:MSt} (hσ:∀ (h:Nat) (q:Nat×Nat),σ[h]?=some (some q)→q.2≤P.length) {h a b:Nat} (hb:b≤P.length):bindS l (shift d σ) h (a+d) (b+d)=(bindS P σ h a b).map (shift d):=by
 unfold bindS
 rw [zTa]
 cases hq:σ[h]? with
 | none=>rfl
 | some o =>
  cases o with
  | none =>
   simp only [Option.map_some,Option.map_none,Option.some.injEq]
   unfold shift
   rw [List.map_set];rfl
  | some q =>
   simp only [Option.map_some]
   rw [hS.pc hb,hS.pc (hσ h q hq)]
   split <;> rfl
section
variable (f:List Prt) (hs:List Hl)
def In (P:List Prt) (σ:MSt):Prop:=∀ (h:Nat) (q:Nat×Nat),σ[h]?=some (some q)→q.2≤P.length
theorem In.bind {P:List Prt} {σ τ:MSt} (hi:In P σ) {h a b:Nat} (hb:b≤P.length) (e:bindS P σ h a b=some τ):In P τ:=by
 intro k q hq
 by_cases c:k=h
 ·subst c
  obtain ⟨_,q',q1,_,q3 | ⟨_,rfl,_⟩⟩:=jR P e
  ·rw [hq] at q1;cases q1;exact hi k q q3
  ·rw [hq] at q1;cases q1;exact hb
 ·rw [zEc P e c] at hq;exact hi k q hq
end
section
variable (f l:List Prt) (hs:List Hl)
def Good1 (lo hi:Nat) (h:Nat) (q:Nat×Nat):Prop:=lo≤q.1∧q.1≤q.2∧q.2≤hi∧(∃ K,advT l K q.1 q.2=some q.2)∧(isSev (hkind hs h)=false→q.1<l.length∧zC l q.1=q.2∧mayB (hkind hs h) (yJ l q.1)=true)
theorem Good1.wide {lo hi lo' hi' h:Nat} {q:Nat×Nat} (g:Good1 l hs lo hi h q) (h1:lo'≤lo) (h2:hi≤hi'):Good1 l hs lo' hi' h q:=⟨Nat.le_trans h1 g.1,g.2.1,Nat.le_trans g.2.2.1 h2,g.2.2.2⟩
theorem zEe {i:Nat}:∀ {k u:Nat},upI l i k=(u:Int)→u<k∧i<zC l u∧∀ j,u<j→j<k→zC l j≤i
 | 0,u,h=>by rw [upI] at h;omega
 | k+1,u,h=>by
  rw [upI] at h
  split at h
  ·rename_i hc
   obtain rfl:k=u:=by omega
   exact ⟨by omega,hc,fun j h1 h2=>by omega⟩
  ·rename_i hc
   obtain ⟨h1,h2,h3⟩:=zEe h
   refine ⟨by omega,h2,fun j g1 g2=>?_⟩
   by_cases e:j=k
   ·subst e;omega
   ·exact h3 j g1 (by omega)
theorem vP.place_at {f:List Prt} {hs:List Hl} (H:vP f hs) {h:Nat} (hh:h<hs.length) {p:Nat} (hp:p<f.length) (hpl:vH f[p] hs[h]=true):∃ q,q<f.length∧zW f hs q=some h:=by
 have hpo:=H.plc h hh p hp hpl
 by_cases c:vE (hs[h]).2=true
 ·have hu:kindI f (upN f p)=some 50:=by
   unfold xP at hpo
   unfold vE at c
   simp at c
   rcases c with c | c
   ·rw [if_pos c] at hpo;simpa using hpo
   ·rw [if_neg (by omega),if_pos c] at hpo
    simp at hpo;exact hpo.1
  unfold kindI at hu
  split at hu
  ·cases hu
  ·rename_i hneg
   obtain ⟨u,hue⟩:∃ u:Nat,upN f p=(u:Int):=⟨(upN f p).toNat,by omega⟩
   rw [hue] at hu
   simp only [Int.toNat_natCast,Option.map_eq_some_iff] at hu
   obtain ⟨a,ha,hk⟩:=hu
   obtain ⟨h1,rfl⟩:=List.getElem?_eq_some_iff.1 ha
   have hf:=zK H.well
   obtain ⟨g1,g2,g3⟩:=zEe f hue
   obtain ⟨k1,k2⟩:=zDe hf h1 (H.stmt u h1 hk)
   have hpu:p=u+1:=by
    rcases Nat.lt_or_ge (u+1) p with c3 | c3
    ·have:=g3 (u+1) (by omega) c3;omega
    ·omega
   subst hpu
   refine ⟨u,h1,H.stands hh ?_⟩
   unfold yD
   have:=yC hpl
   rw [if_pos c,List.getElem?_eq_getElem h1,List.getElem?_eq_getElem k1]
   simp [hk,this.1,this.2]
 ·refine ⟨p,hp,H.stands hh ?_⟩
  unfold yD
  have:=yC hpl
  rw [if_neg c,List.getElem?_eq_getElem hp]
  simp [this.1,this.2]
end
end Go.Proofs.YtfalelkfhandfaaGreatDoor
namespace Go.Proofs.YtfalelkfhandfaaGreatDoor
set_option linter.all false

def zA (s:ByteArray):List Nat:=s.data.toList.map fun b=>b.toNat
theorem zH (s:ByteArray):(zA s).length=s.size:=by unfold zA;rw [List.length_map,← xB]
theorem kG (s:ByteArray) (i:Nat) (h:i<s.size):(zA s)[i]?=some (bt s i):=by
 unfold zA bt
 rw [List.getElem?_map,get!_list,List.getD_eq_getElem?_getD]
 have hl:i<s.data.toList.length:=by rw [← xB];exact h
 rw [List.getElem?_eq_getElem hl]
 rfl
end Go.Proofs.YtfalelkfhandfaaGreatDoor
namespace Go.Proofs.YtfalelkfhandfaaGreatDoor
set_option linter.all false

theorem zDq (s:ByteArray) (i:Nat):(s.extract i s.size).data.toList=s.data.toList.drop i:=by
 rw [jI,List.take_of_length_le]
 rw [List.length_drop,← xB];omega
end Go.Proofs.YtfalelkfhandfaaGreatDoor
namespace Go.Proofs.YtfalelkfhandfaaGreatDoor
set_option linter.all false

end Go.Proofs.YtfalelkfhandfaaGreatDoor
