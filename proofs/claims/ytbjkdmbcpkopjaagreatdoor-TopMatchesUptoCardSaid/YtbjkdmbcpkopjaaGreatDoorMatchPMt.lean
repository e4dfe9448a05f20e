/- Layer 17 in plain Lean: a rule is sought way by way; the document tries all numbers, the least first: one answer. -/
import Derived.Test.YtbjkdmbcpkopjaaGreatDoorCoreMt
import Derived.Lib.IndexMore
import Derived.Test.YtbjkdmbcpkopjaaGreatDoorTermMt
namespace Go.Proofs.YtbjkdmbcpkopjaaGreatDoor
set_option linter.all false

abbrev Hl:=ByteArray×Nat
def xO (k:Nat):Bool:=k == 5 || k == 7
def isSev (k:Nat):Bool:=k == 6 || k == 7
def zW (f:List Prt) (p:Nat) (h:Hl):Bool :=
 if xO h.2 then (match f[p]?,f[p+1]? with
  | some a,some b=>a.1 == 50&&(b.1 == 26&&decide (b.2.2=h.1))
  | _,_=>false)
 else (match f[p]? with
  | some a=>a.1 == 26&&decide (a.2.2=h.1)
  | none=>false)
def zL (f:List Prt) (hs:List Hl) (p:Nat):Option Nat:=hs.findIdx? (zW f p)
def hkind (hs:List Hl) (h:Nat):Nat:=match hs[h]? with
 | some x=>x.2
 | none=>0
def sevOf (f:List Prt) (hs:List Hl) (p:Nat):Option Nat:=match zL f hs p with
 | some h=>if isSev (hkind hs h) then some h else none
 | none=>none
def oneOf (f:List Prt) (hs:List Hl) (p:Nat):Option Nat:=match zL f hs p with
 | some h=>if isSev (hkind hs h) then none else some h
 | none=>none
def mayB (hole k:Nat):Bool :=
 if hole=1 then decide (26≤k)&&(decide (k≤48)&&k != 38)
 else if hole=2 then k == 26
 else if hole=3 then k == 27
 else if hole=4 then k == 26 || ((decide (28≤k)&&decide (k≤30)) || (k == 35 || (decide (41≤k)&&decide (k≤48))))
 else if hole=5 then decide (49≤k)&&(decide (k≤68)&&(k != 62&&k != 64))
 else true
abbrev MSt:=List (Option (Nat×Nat))
def piece (l:List Prt) (a b:Nat):List Prt:=(l.drop a).take (b-a)
def bindS (l:List Prt) (σ:MSt) (h a b:Nat):Option MSt:=match σ[h]? with
 | some (some q)=>if piece l q.1 q.2=piece l a b then some σ else none
 | some none=>some (σ.set h (some (a,b)))
 | none=>none
def advT (l:List Prt):Nat→Nat→Nat→Option Nat
 | 0,a,_=>some a
 | m+1,a,stop=>if a<stop then advT l m (zB l a) stop else none
def alikeP (f l:List Prt) (p i:Nat):Bool:=match f[p]?,l[i]? with
 | some a,some b=>a.1 == b.1&&decide (a.2.2=b.2.2)
 | _,_=>false
def zT (l:List Prt) (i:Nat):Nat:=match l[i]? with
 | some b=>b.1
 | none=>0
def tosL (l:List Prt):Nat→Nat→Nat→List Nat
 | 0,_,_=>[]
 | m+1,tx,iend=>tx::(if tx=iend then [] else tosL l m (zB l tx) iend)

section
variable (f l:List Prt) (hs:List Hl)
mutual
def fPart (L:Nat→Nat):Nat→Nat→Nat→MSt→Option MSt
 | 0,_,_,_=>none
 | n+1,p,i,σ=>match oneOf f hs p with
  | some h=>if mayB (hkind hs h) (zT l i) then bindS l σ h i (zB l i) else none
  | none=>if alikeP f l p i then fKids L n (p+1) (zB f p) (i+1) (zB l i) σ else none
def fKids (L:Nat→Nat):Nat→Nat→Nat→Nat→Nat→MSt→Option MSt
 | 0,_,_,_,_,_=>none
 | n+1,p,pend,i,stop,σ=>if p=pend then (if i=stop then some σ else none) else
   match sevOf f hs p with
   | some h=>(advT l (L h) i stop).bind fun tx=>(bindS l σ h i tx).bind fun σ'=>fKids L n (zB f p) pend tx stop σ'
   | none=>if i<stop then (fPart L n p i σ).bind fun σ'=>fKids L n (zB f p) pend (zB l i) stop σ' else none
end
def sLoop (l:List Prt) (g:Nat→Option MSt):Nat→Nat→Nat→Option MSt
 | 0,_,_=>none
 | m+1,tx,iend=>match g tx with
  | some r=>some r
  | none=>if tx=iend then none else sLoop l g m (zB l tx) iend
mutual
def sPart:Nat→Nat→Nat→(MSt→Option MSt)→MSt→Option MSt
 | 0,_,_,_,_=>none
 | n+1,p,i,K,σ=>match oneOf f hs p with
  | some h=>if mayB (hkind hs h) (zT l i) then (bindS l σ h i (zB l i)).bind K else none
  | none=>if alikeP f l p i then sKids n (p+1) (zB f p) (i+1) (zB l i) K σ else none
def sKids:Nat→Nat→Nat→Nat→Nat→(MSt→Option MSt)→MSt→Option MSt
 | 0,_,_,_,_,_,_=>none
 | n+1,p,pend,i,stop,K,σ=>if p=pend then (if i=stop then K σ else none) else
   match sevOf f hs p with
   | some h=>sLoop l (fun tx=>(bindS l σ h i tx).bind (sKids n (zB f p) pend tx stop K)) (l.length+1) i stop
   | none=>if i<stop then sPart n p i (sKids n (zB f p) pend (zB l i) stop K) σ else none
end
mutual
def aPart:Nat→Nat→Nat→MSt→List MSt
 | 0,_,_,_=>[]
 | n+1,p,i,σ=>match oneOf f hs p with
  | some h=>if mayB (hkind hs h) (zT l i) then (bindS l σ h i (zB l i)).toList else []
  | none=>if alikeP f l p i then aKids n (p+1) (zB f p) (i+1) (zB l i) σ else []
def aKids:Nat→Nat→Nat→Nat→Nat→MSt→List MSt
 | 0,_,_,_,_,_=>[]
 | n+1,p,pend,i,stop,σ=>if p=pend then (if i=stop then [σ] else []) else
   match sevOf f hs p with
   | some h=>(tosL l (l.length+1) i stop).flatMap fun tx=>(bindS l σ h i tx).toList.flatMap (aKids n (zB f p) pend tx stop)
   | none=>if i<stop then (aPart n p i σ).flatMap (aKids n (zB f p) pend (zB l i) stop) else []
end
theorem kV {α β γ:Type} (K:β→Option γ) (g:α→List β):∀ xs:List α,(xs.flatMap g).findSome? K=xs.findSome? fun x=>(g x).findSome? K
 | []=>rfl
 | x::xs=>by
  rw [List.flatMap_cons,List.findSome?_append,kV K g xs,List.findSome?_cons];cases (g x).findSome? K <;> rfl
theorem fZ {β γ:Type} (K:β→Option γ) (o:Option β):o.toList.findSome? K=o.bind K:=by
 cases o with
 | none=>rfl
 | some x=>simp [List.findSome?_cons];cases K x <;> rfl
theorem zNf (g:Nat→Option MSt):∀ (m tx iend:Nat),sLoop l g m tx iend=(tosL l m tx iend).findSome? g
 | 0,_,_=>rfl
 | m+1,tx,iend=>by
  rw [sLoop,tosL,List.findSome?_cons];cases g tx with
  | some r=>rfl
  | none =>
   simp only [];split
   ·rfl
   ·exact zNf g m _ _
theorem yCh:∀ n,(∀ p i K σ,sPart f l hs n p i K σ=(aPart f l hs n p i σ).findSome? K)∧(∀ p pend i stop K σ,sKids f l hs n p pend i stop K σ=(aKids f l hs n p pend i stop σ).findSome? K)
 | 0=>⟨fun _ _ _ _=>by rw [sPart,aPart];rfl,fun _ _ _ _ _ _=>by rw [sKids,aKids];rfl⟩
 | n+1=>by
  obtain ⟨h1,h2⟩:=yCh n;constructor
  ·intro p i K σ;rw [sPart,aPart];cases oneOf f hs p with
   | some h =>
    simp only [];split
    ·rw [fZ]
    ·rfl
   | none =>
    simp only [];split
    ·exact h2 _ _ _ _ _ _
    ·rfl
  ·intro p pend i stop K σ;rw [sKids,aKids];split
   ·split
    ·simp only [List.findSome?_cons,List.findSome?_nil];cases K σ <;> rfl
    ·rfl
   ·cases sevOf f hs p with
    | some h =>
     simp only [];rw [zNf,kV]
     congr 1
     funext tx
     rw [kV,fZ]
     congr 1
     funext σ'
     exact h2 _ _ _ _ _ _
    | none =>
     simp only [];split
     ·rw [kV,h1]
      congr 1
      funext σ'
      exact h2 _ _ _ _ _ _
     ·rfl
def MExt (σ τ:MSt):Prop:=σ.length=τ.length∧∀ (h:Nat) (q:Nat×Nat),σ[h]?=some (some q)→τ[h]?=some (some q)
theorem MExt.refl (σ:MSt):MExt σ σ:=⟨rfl,fun _ _ h=>h⟩
theorem MExt.trans {σ τ υ:MSt} (h:MExt σ τ) (g:MExt τ υ):MExt σ υ:=⟨h.1.trans g.1,fun k q e=>g.2 k q (h.2 k q e)⟩
theorem vF {σ τ:MSt} {h a b:Nat} (e:bindS l σ h a b=some τ):MExt σ τ∧∃ q,τ[h]?=some (some q)∧piece l q.1 q.2=piece l a b∧(σ[h]?=some (some q)∨(σ[h]?=some none∧q=(a,b)∧τ=σ.set h (some (a,b)))):=by
 unfold bindS at e;cases hq:σ[h]? with
 | none=>rw [hq] at e;cases e
 | some o =>
  cases o with
  | some q =>
   rw [hq] at e;simp only [] at e;split at e
   ·rename_i hp;cases e
    exact ⟨MExt.refl _,q,hq,hp,Or.inl rfl⟩
   ·cases e
  | none =>
   rw [hq] at e;simp only [Option.some.injEq] at e;subst e;have hl:h<σ.length:=by
    by_cases c:h<σ.length
    ·exact c
    ·rw [List.getElem?_eq_none (by omega)] at hq;cases hq
   refine ⟨⟨by simp,fun k q hk=>?_⟩,(a,b),by rw [List.getElem?_set_self hl],rfl,Or.inr ⟨rfl,rfl,rfl⟩⟩;by_cases c:h=k
   ·subst c;rw [hq] at hk;cases hk
   ·rw [List.getElem?_set_ne c];exact hk
theorem zDd {σ τ:MSt} {h a b:Nat} (e:bindS l σ h a b=some τ) {k:Nat} (hk:k≠h):τ[k]?=σ[k]?:=by
 obtain ⟨_,q,_,_,h2 | ⟨_,_,rfl⟩⟩:=vF l e
 ·unfold bindS at e;rw [h2] at e;simp only [] at e;split at e <;> (cases e;try rfl)
 ·rw [List.getElem?_set_ne (fun c=>hk c.symm)]
theorem zGc:∀ n,(∀ p i σ τ,τ∈aPart f l hs n p i σ→MExt σ τ)∧(∀ p pend i stop σ τ,τ∈aKids f l hs n p pend i stop σ→MExt σ τ)
 | 0=>⟨(fun _ _ _ _ h=>by rw [aPart] at h;cases h),(fun _ _ _ _ _ _ h=>by rw [aKids] at h;cases h)⟩
 | n+1=>by
  obtain ⟨h1,h2⟩:=zGc n;constructor
  ·intro p i σ τ h;rw [aPart] at h;cases ho:oneOf f hs p with
   | some k =>
    rw [ho] at h;simp only [] at h;split at h
    ·rw [Option.mem_toList] at h;exact (vF l h).1
    ·cases h
   | none =>
    rw [ho] at h;simp only [] at h;split at h
    ·exact h2 _ _ _ _ _ _ h
    ·cases h
  ·intro p pend i stop σ τ h;rw [aKids] at h;split at h
   ·split at h
    ·simp at h;subst h;exact MExt.refl _
    ·cases h
   ·cases ho:sevOf f hs p with
    | some k =>
     rw [ho] at h;simp only [List.mem_flatMap,Option.mem_toList] at h;obtain ⟨tx,_,υ,g1,g2⟩:=h;exact (vF l g1).1.trans (h2 _ _ _ _ _ _ g2)
    | none =>
     rw [ho] at h;simp only [] at h;split at h
     ·simp only [List.mem_flatMap] at h;obtain ⟨υ,g1,g2⟩:=h;exact (h1 _ _ _ _ g1).trans (h2 _ _ _ _ _ _ g2)
     ·cases h
end
def cntP (q:List Prt):Nat:=match zD q with
 | some ts=>ts.length
 | none=>0
theorem yY {l:List Prt} {us:List Nat} (hl:zD l=some us):∀ (k a stop b:Nat),stop≤l.length→advT l k a stop=some b→a+k≤b
 | 0,a,stop,b,_,h=>by rw [advT] at h;cases h;omega
 | k+1,a,stop,b,hs,h=>by
  rw [advT] at h;split at h
  ·rename_i hc;have:=yY hl k _ _ _ hs h;have:=(zP hl (show a<l.length by omega)).1;omega
  ·cases h
theorem zAw (l:List Prt):∀ (k j a stop:Nat),advT l (k+j) a stop=(advT l k a stop).bind fun b=>advT l j b stop
 | 0,j,a,stop=>by rw [Nat.zero_add,advT];rfl
 | k+1,j,a,stop=>by
  rw [show k+1+j=(k+j)+1 by omega,advT,advT];split
  ·exact zAw l k j _ _
  ·rfl
theorem zGd {l:List Prt} {us:List Nat} (hl:zD l=some us):∀ (k a stop b:Nat),stop≤l.length→advT l k a stop=some b→b≤stop→advT l k a b=some b
 | 0,a,stop,b,_,h,_=>by rw [advT] at h ⊢;cases h;rfl
 | k+1,a,stop,b,hs,h,hb=>by
  rw [advT] at h ⊢;split at h
  ·rename_i hc;have h1:=yY hl k _ _ _ hs h;have:=(zP hl (show a<l.length by omega)).1;rw [iP (by omega)];exact zGd hl k _ _ _ hs h hb
  ·cases h
theorem jQ (l:List Prt) {a b c:Nat} (h1:a≤b) (h2:b≤c):piece l a c=piece l a b++piece l b c:=by
 unfold piece;rw [show c-a=(b-a)+(c-b) by omega,List.take_add,List.drop_drop,show a+(b-a)=b by omega]
theorem zDe {l:List Prt} {us:List Nat} (hl:zD l=some us) {a:Nat} (ha:a<l.length):∃ t,zD (piece l a (zB l a))=some [t]:=by
 obtain ⟨ts,h1,h2⟩:=kI _ _ _ _ _ (zIh hl ha);match ts,h2 with
 | [t],_=>exact ⟨t,h1⟩
theorem zCf {l:List Prt} {us:List Nat} (hl:zD l=some us):∀ (k a b:Nat),b≤l.length→advT l k a b=some b→∃ ts,zD (piece l a b)=some ts∧ts.length=k
 | 0,a,b,hb,h=>by
  rw [advT] at h;cases h;unfold piece;rw [Nat.sub_self,List.take_zero];exact ⟨[],rfl,rfl⟩
 | k+1,a,b,hb,h=>by
  rw [advT] at h;split at h
  ·rename_i hc;obtain ⟨ts,h1,h2⟩:=zCf hl k _ _ hb h;have hle:=yY hl k _ _ _ hb h;have hg:=(zP hl (show a<l.length by omega)).1;obtain ⟨t,ht⟩:=zDe hl (show a<l.length by omega);rw [jQ l (by omega) (show zB l a≤b by omega)];exact ⟨_,kT ht h1,by simp [h2]⟩
  ·cases h
theorem yBa {l:List Prt} {us:List Nat} (hl:zD l=some us) {k a b stop:Nat} (hs:stop≤l.length) (h:advT l k a stop=some b) (hb:b≤stop):cntP (piece l a b)=k:=by
 obtain ⟨ts,h1,h2⟩:=zCf hl k a b (by omega) (zGd hl k a stop b hs h hb);unfold cntP;rw [h1];exact h2
theorem jB {l:List Prt} {us:List Nat} (hl:zD l=some us) {K k a stop b:Nat} (hs:stop≤l.length) (hK:advT l K a stop=some stop) (hk:advT l k a stop=some b):k≤K∧b≤stop∧advT l (K-k) b stop=some stop:=by
 have hle:k≤K:=by
  rcases Nat.lt_or_ge K k with h | h
  ·exfalso;rw [show k=K+((k-K-1)+1) by omega,zAw,hK] at hk;simp only [Option.bind_some] at hk;rw [advT,iN (by omega)] at hk;cases hk
  ·exact h
 have h2:=hK;rw [show K=k+(K-k) by omega,zAw,hk] at h2;simp only [Option.bind_some] at h2;have:=yY hl _ _ _ _ hs h2;exact ⟨hle,by omega,h2⟩
theorem yZ {l:List Prt} {K a stop:Nat} (hK:advT l K a stop=some stop) (ha:a≠stop):a<stop∧∃ J,K=J+1∧advT l J (zB l a) stop=some stop:=by
 cases K with
 | zero=>rw [advT] at hK;cases hK;exact absurd rfl ha
 | succ J =>
  rw [advT] at hK;split at hK
  ·exact ⟨by assumption,J,rfl,hK⟩
  ·cases hK
theorem xF {l:List Prt} {us:List Nat} (hl:zD l=some us) {i:Nat} (hi:i<l.length):∃ q,(l[i]).2.1=((q:Nat):Int)∧advT l q (i+1) (zB l i)=some (zB l i):=by
 obtain ⟨ts,q,h1,h2,h3,h4,_⟩:=zCa hl hi;refine ⟨q,h2,?_⟩;have key:∀ m n,n+m=q→advT l m (i+1+(ts.take n).sum) (zB l i)=some (zB l i):=by
  intro m;induction m with
  | zero=>intro n e;rw [advT,h4,show n=q by omega]
  | succ m ih =>
   intro n e;obtain ⟨g1,g2,_,g4,_⟩:=fD hl h1 h3 (show n<q by omega);rw [advT,iP (by omega),g2];exact ih (n+1) (by omega)
 have:=key q 0 (by omega)
 simpa using this
theorem fK {l:List Prt} {us:List Nat} (hl:zD l=some us) {stop:Nat} (hs:stop≤l.length):∀ (m a K tx:Nat),advT l K a stop=some stop→stop-a<m→(tx∈tosL l m a stop↔∃ k,advT l k a stop=some tx)
 | 0,a,K,tx,_,h=>by omega
 | m+1,a,K,tx,hK,hm=>by
  rw [tosL,List.mem_cons];constructor
  ·rintro (rfl | h)
   ·exact ⟨0,rfl⟩
   ·split at h
    ·cases h
    ·rename_i hne;obtain ⟨hlt,J,rfl,hJ⟩:=yZ hK hne;have:=(zP hl (show a<l.length by omega)).1;obtain ⟨k,hk⟩:=(fK hl hs m (zB l a) J tx hJ (by omega)).1 h;exact ⟨k+1,by rw [advT,iP hlt];exact hk⟩
  ·rintro ⟨k,hk⟩;cases k with
   | zero=>rw [advT] at hk;cases hk;exact Or.inl rfl
   | succ k =>
    rw [advT] at hk;split at hk
    ·rename_i hlt;obtain ⟨_,J,rfl,hJ⟩:=yZ hK (show a≠stop by omega);have:=(zP hl (show a<l.length by omega)).1;right;rw [iN (by omega)];exact (fK hl hs m (zB l a) J tx hJ (by omega)).2 ⟨k,hk⟩
    ·cases hk
section
variable (f l:List Prt) (hs:List Hl)
theorem gV {p h:Nat} (e:sevOf f hs p=some h):isSev (hkind hs h)=true∧zL f hs p=some h:=by
 unfold sevOf at e;cases ho:zL f hs p with
 | none=>rw [ho] at e;cases e
 | some k =>
  rw [ho] at e;simp only [] at e;split at e
  ·cases e;exact ⟨by assumption,rfl⟩
  ·cases e
theorem zDf {p h:Nat} (e:oneOf f hs p=some h):isSev (hkind hs h)=false∧zL f hs p=some h∧sevOf f hs p=none:=by
 unfold oneOf at e;unfold sevOf;cases ho:zL f hs p with
 | none=>rw [ho] at e;cases e
 | some k =>
  rw [ho] at e;simp only [] at e ⊢;split at e
  ·cases e
  ·cases e
   rename_i hx;rw [iN hx];exact ⟨by simpa using hx,rfl,rfl⟩
end
def MBnd (τ:MSt) (h:Nat):Prop:=∃ q,τ[h]?=some (some q)
theorem MBnd.ext {σ τ:MSt} {h:Nat} (hb:MBnd σ h) (he:MExt σ τ):MBnd τ h:=by obtain ⟨q,hq⟩:=hb;exact ⟨q,he.2 _ _ hq⟩
section
variable (f l:List Prt) (hs:List Hl)
end
section
variable (f l:List Prt) (hs:List Hl)
variable {f l hs}
end
structure RuleM where
 nm:ByteArray
 goal:Nat
 holes:List Hl
 fnd:List Prt
 by':List Prt
def kindI (l:List Prt) (i:Int):Option Nat:=if i<0 then none else (l[i.toNat]?).map (·.1)
def upN (l:List Prt) (i:Nat):Int:=upI l i i
def xZ (l:List Prt) (k i:Nat):Bool :=
 if k=5 then kindI l (upN l i) == some 50
 else if k=7 then kindI l (upN l i) == some 50&&kindI l (upN l (upN l i).toNat) == some 13
 else if k=6 then kindI l (upN l i) == some 11 || kindI l (upN l i) == some 12
 else true
def xQ (p:Prt) (h:Hl):Bool:=p.1 == 26&&decide (p.2.2=h.1)
def vH (l:List Prt) (h:Hl):Nat→Nat→Int→Int
 | 0,_,n=>n
 | m+1,i,n=>match l[i]? with
  | none=>n
  | some p=>if xQ p h then (if xZ l h.2 i then vH l h m (i+1) (n+1) else -1) else vH l h m (i+1) n
def yK (l:List Prt) (h:Hl):Int:=vH l h l.length 0 0
theorem zBq (l:List Prt) (h:Hl):∀ m i n,0≤n→i+m=l.length→0≤vH l h m i n→∀ p (hp:p<l.length),i≤p→xQ l[p] h=true→xZ l h.2 p=true
 | 0,i,n,hn,hi,_,p,hp,hip,_=>by omega
 | m+1,i,n,hn,hi,h0,p,hp,hip,hpl=>by
  rw [vH,gE (by omega)] at h0;simp only [] at h0;by_cases e:i=p
  ·subst e;rw [iP hpl] at h0;split at h0
   ·assumption
   ·omega
  ·split at h0
   ·split at h0
    ·exact zBq l h m (i+1) (n+1) (by omega) (by omega) h0 p hp (by omega) hpl
    ·omega
   ·exact zBq l h m (i+1) n hn (by omega) h0 p hp (by omega) hpl
theorem zCg (l:List Prt) (h:Hl):∀ m i n,0≤n→i+m=l.length→n<vH l h m i n→∃ p,∃ hp:p<l.length,xQ l[p] h=true
 | 0,i,n,hn,hi,h0=>by rw [vH] at h0;omega
 | m+1,i,n,hn,hi,h0=>by
  rw [vH,gE (by omega)] at h0;simp only [] at h0;split at h0
  ·rename_i e;exact ⟨i,by omega,e⟩
  ·exact zCg l h m (i+1) n hn (by omega) h0
structure xP (f:List Prt) (hs:List Hl):Prop where
 well:zV f=true
 uniq:∀ (a b:Nat) (ha:a<hs.length) (hb:b<hs.length),(hs[a]).1=(hs[b]).1→a=b
 leaf:∀ (p:Nat) (hp:p<f.length),(f[p]).1=26→(f[p]).2.1=0
 stmt:∀ (p:Nat) (hp:p<f.length),(f[p]).1=50→(f[p]).2.1=1
 plc:∀ (h:Nat) (hh:h<hs.length) (p:Nat) (hp:p<f.length),xQ f[p] hs[h]=true→xZ f (hs[h]).2 p=true
theorem zGe {f:List Prt} {uf:List Nat} (hf:zD f=some uf) {p:Nat} (hp:p<f.length) (h:(f[p]).2.1=0):zB f p=p+1:=by
 obtain ⟨q,h1,h2⟩:=xF hf hp;obtain rfl:q=0:=by omega
 rw [advT] at h2;have:=Option.some.inj h2;omega
theorem zCh {f:List Prt} {uf:List Nat} (hf:zD f=some uf) {p:Nat} (hp:p<f.length) (h:(f[p]).2.1=1):p+1<f.length∧zB f (p+1)=zB f p:=by
 obtain ⟨q,h1,h2⟩:=xF hf hp;obtain rfl:q=1:=by omega
 rw [advT] at h2;split at h2
 ·rename_i hc;rw [advT] at h2;have:=(zP hf hp).2;exact ⟨by omega,by simpa using h2⟩
 ·cases h2
theorem xN {f:List Prt} {p:Nat} {h:Hl} (e:zW f p h=true):(xO h.2=true∧∃ (h1:p<f.length) (h2:p+1<f.length),(f[p]).1=50∧xQ (f[p+1]) h=true)∨(xO h.2=false∧∃ h1:p<f.length,xQ (f[p]) h=true):=by
 unfold zW at e;cases hs:xO h.2 with
 | true =>
  rw [hs,iP rfl] at e;left;split at e
  ·rename_i a b ha hb;simp only [Bool.and_eq_true,beq_iff_eq] at e;obtain ⟨h1,rfl⟩:=List.getElem?_eq_some_iff.1 ha;obtain ⟨h2,rfl⟩:=List.getElem?_eq_some_iff.1 hb;refine ⟨rfl,h1,h2,e.1,?_⟩;unfold xQ;simp [e.2]
  ·cases e
 | false =>
  rw [hs] at e;right;simp only [Bool.false_eq_true,if_false] at e;split at e
  ·rename_i a ha;obtain ⟨h1,rfl⟩:=List.getElem?_eq_some_iff.1 ha;refine ⟨rfl,h1,?_⟩;unfold xQ;exact e
  ·cases e
theorem jV {f:List Prt} {hs:List Hl} {p h:Nat} (e:zL f hs p=some h):∃ hh:h<hs.length,zW f p hs[h]=true:=by
 unfold zL at e;rw [List.findIdx?_eq_some_iff_getElem] at e;exact ⟨e.1,e.2.1⟩
theorem zR {p:Prt} {h:Hl} (e:xQ p h=true):p.1=26∧p.2.2=h.1:=by
 unfold xQ at e
 simpa using e
theorem xP.stands {f:List Prt} {hs:List Hl} (H:xP f hs) {p h:Nat} (hh:h<hs.length) (e:zW f p hs[h]=true):zL f hs p=some h:=by
 unfold zL;rw [List.findIdx?_eq_some_iff_getElem];refine ⟨hh,e,fun j hj=>?_⟩;simp only [Bool.not_eq_true];rw [Bool.eq_false_iff];intro e2;rcases xN e with ⟨a1,a2,a3,a4,a5⟩ | ⟨a1,a2,a5⟩ <;> rcases xN e2 with ⟨b1,b2,b3,b4,b5⟩ | ⟨b1,b2,b5⟩
 ·have:=H.uniq h j hh (by omega) (by rw [← (zR a5).2,← (zR b5).2]);omega
 ·have:=(zR b5).1;omega
 ·have:=(zR a5).1;omega
 ·have:=H.uniq h j hh (by omega) (by rw [← (zR a5).2,← (zR b5).2]);omega
theorem xP.top {f:List Prt} {hs:List Hl} (H:xP f hs):sevOf f hs 0=none:=by
 obtain ⟨hf0,hfe⟩:=xT H.well;cases hv:sevOf f hs 0 with
 | none=>rfl
 | some h =>
  exfalso;obtain ⟨hsv,ho⟩:=gV f hs hv;obtain ⟨hh,e⟩:=jV ho;have hk:hkind hs h=(hs[h]).2:=by unfold hkind;rw [gE hh]
  rw [hk] at hsv;have hf:=zJ H.well;rcases xN e with ⟨a1,a2,a3,a4,a5⟩ | ⟨a1,a2,a5⟩
  ·have h7:(hs[h]).2=7:=by
    unfold isSev at hsv;unfold xO at a1;simp at hsv a1;omega
   have h1:=zCh hf hf0 (H.stmt 0 hf0 a4);have h2:=zGe hf a3 (H.leaf _ a3 (zR a5).1);have:=H.plc h hh _ a3 a5;unfold xZ at this;rw [iN (by omega),iP h7] at this;have hu:upN f (0+1)=0:=by unfold upN;rw [upI,iP (by omega)];rfl
   rw [hu] at this;have h0:upN f (0:Int).toNat=-1:=rfl;rw [h0] at this;simp [kindI] at this
  ·have h6:(hs[h]).2=6:=by
    unfold isSev at hsv;unfold xO at a1;simp at hsv a1;omega
   have:=H.plc h hh _ hf0 a5;unfold xZ at this;rw [iN (by omega),iN (by omega),iP h6] at this;have h0:upN f 0=-1:=rfl;rw [h0] at this;simp [kindI] at this
def holeP (f:List Prt) (hs:List Hl) (p:Nat):Option Nat :=
 if zT f p=50∧zT f (p+1)=26 then (match hs.findIdx? (fun h=>match f[p+1]? with
   | some b=>decide (b.2.2=h.1)
   | none=>false) with
  | some h=>if xO (hkind hs h) then some h else none
  | none=>none)
 else if zT f p=26 then (match hs.findIdx? (fun h=>match f[p]? with
   | some b=>decide (b.2.2=h.1)
   | none=>false) with
  | some h=>if xO (hkind hs h) then none else some h
  | none=>none)
 else none
theorem xP.prog {f:List Prt} {hs:List Hl} (H:xP f hs) (p:Nat) (hp:p<f.length):holeP f hs p=zL f hs p:=by
 have hf:=zJ H.well;have hka:∀ i (hi:i<f.length),zT f i=(f[i]).1:=fun i hi=>by unfold zT;rw [gE hi]
 have hhk:∀ h (hh:h<hs.length),hkind hs h=(hs[h]).2:=fun h hh=>by unfold hkind;rw [gE hh]
 have hnone:(∀ h (hh:h<hs.length),¬ zW f p hs[h]=true)→zL f hs p=none:=by
  intro h;unfold zL;rw [List.findIdx?_eq_none_iff];intro x hx;obtain ⟨i,hi,rfl⟩:=List.mem_iff_getElem.1 hx
  simpa using h i hi
 unfold holeP;by_cases h50:zT f p=50∧zT f (p+1)=26
 ·rw [iP h50];have hp1:p+1<f.length:=by
   by_cases c:p+1<f.length
   ·exact c
   ·exfalso;have:=h50.2;unfold zT at this;rw [List.getElem?_eq_none (by omega)] at this;cases this
  rw [hka p hp,hka _ hp1] at h50;rw [gE hp1];simp only [];cases hx:hs.findIdx? (fun h=>decide ((f[p+1]).2.2=h.1)) with
  | none =>
   simp only [];rw [hnone];intro h hh e;rw [List.findIdx?_eq_none_iff] at hx;rcases xN e with ⟨_,_,_,_,a5⟩ | ⟨_,_,a5⟩
   ·have:=hx _ (gM hh);rw [(zR a5).2] at this;simp at this
   ·have:=(zR a5).1;omega
  | some h =>
   simp only [];have hx2:=hx;rw [List.findIdx?_eq_some_iff_getElem] at hx;obtain ⟨hh,g1,_⟩:=hx;have g1:(f[p+1]).2.2=(hs[h]).1:=by simpa using g1
   rw [hhk h hh];by_cases c:xO (hs[h]).2=true
   ·rw [iP c];symm;apply H.stands hh;unfold zW;rw [iP c,gE hp,gE hp1];simp [h50.1,h50.2,g1]
   ·rw [iN c,hnone];intro j hj e;rcases xN e with ⟨a1,_,_,_,a5⟩ | ⟨_,_,a5⟩
    ·have:=H.uniq h j hh hj (by rw [← g1,(zR a5).2]);subst this;exact c a1
    ·have:=(zR a5).1;omega
 ·rw [iN h50];by_cases h26:zT f p=26
  ·rw [iP h26,gE hp];rw [hka p hp] at h26;simp only [];cases hx:hs.findIdx? (fun h=>decide ((f[p]).2.2=h.1)) with
   | none =>
    simp only [];rw [hnone];intro h hh e;rw [List.findIdx?_eq_none_iff] at hx;rcases xN e with ⟨_,_,_,a4,a5⟩ | ⟨_,_,a5⟩
    ·omega
    ·have:=hx _ (gM hh);rw [(zR a5).2] at this;simp at this
   | some h =>
    simp only [];rw [List.findIdx?_eq_some_iff_getElem] at hx;obtain ⟨hh,g1,_⟩:=hx;have g1:(f[p]).2.2=(hs[h]).1:=by simpa using g1
    rw [hhk h hh];by_cases c:xO (hs[h]).2=true
    ·rw [iP c,hnone];intro j hj e;rcases xN e with ⟨_,_,_,a4,a5⟩ | ⟨a1,_,a5⟩
     ·omega
     ·have:=H.uniq h j hh hj (by rw [← g1,(zR a5).2]);subst this;rw [c] at a1;cases a1
    ·rw [iN c];symm;apply H.stands hh;unfold zW;rw [iN c,gE hp];simp [h26,g1]
  ·rw [iN h26,hnone];intro h hh e;rcases xN e with ⟨_,_,a3,a4,a5⟩ | ⟨_,_,a5⟩
   ·exact h50 ⟨by rw [hka p hp];exact a4,by rw [hka _ a3];exact (zR a5).1⟩
   ·exact h26 (by rw [hka p hp];exact (zR a5).1)
def arL (k:Nat):Nat×Bool :=
 if k=2∨k=4∨k=11∨k=12∨k=13∨k=14∨k=20∨k=23∨k=25 then (0,true)
 else if k=10∨k=16∨k=18 then (1,true)
 else if k=0∨k=26∨k=27∨k=49 then (0,false)
 else if k=3∨k=19∨k=28∨k=33∨k=35∨k=36∨k=42∨k=43∨k=45∨k=46∨k=47∨k=48∨k=50∨k=52∨k=54∨k=55∨k=56∨k=57∨k=58∨k=63∨k=68 then (1,false)
 else if k=1∨k=6∨k=7∨k=21∨k=60∨k=66 then (3,false)
 else if k=31∨k=59∨k=61∨k=65 then (4,false)
 else if k=8 then (5,false) else (2,false)
def wGen:List (List UInt8):=[[105,109,112,111,114,116],[99,111,110,115,116],[118,97,114],[116,121,112,101]]
def wUn:List (List UInt8):=[[43],[45],[33],[94],[38],[60,45]]
def wBin:List (List UInt8):=[[124,124],[38,38],[61,61],[33,61],[60],[60,61],[62],[62,61],[43],[45],[124],[94],[42],[47],[37],[60,60],[62,62],[38],[38,94]]
def wChan:List (List UInt8):=[[99,104,97,110],[99,104,97,110,60,45],[60,45,99,104,97,110]]
def wInc:List (List UInt8):=[[43,43],[45,45]]
def wAsg:List (List UInt8):=[[61],[58,61],[43,61],[45,61],[42,61],[47,61],[37,61],[38,61],[124,61],[94,61],[60,60,61],[62,62,61],[38,94,61]]
def wBr:List (List UInt8):=[[98,114,101,97,107],[99,111,110,116,105,110,117,101],[103,111,116,111],[102,97,108,108,116,104,114,111,117,103,104]]
def wordsT (k:Nat):List (List UInt8) :=
 if k=3∨k=4 then wGen else if k=5 then [[46]] else if k=7 then [[61]] else if k=15∨k=34 then [[46,46,46]] else if k=36 then wUn else if k=37 then wBin
 else if k=45 then wChan else if k=52 then wInc else if k=53 then wAsg else if k=57 then wBr else if k=66 then [[61],[58,61]] else []
def noneT (k:Nat):Bool:=!(decide (k=3∨k=4∨k=26∨k=27∨k=36∨k=37∨k=45∨k=52∨k=53∨k=57))
def jn:List (List UInt8)→List UInt8
 | []=>[32]
 | v::vs=>32::(v++jn vs)
theorem zKo (ws:List (List UInt8)):∃ t,jn ws=32::t:=by cases ws with
 | nil=>exact ⟨_,rfl⟩
 | cons v vs=>exact ⟨_,rfl⟩
theorem zDz:∀ {v w a b:List UInt8},(32:UInt8)∉v→(32:UInt8)∉w→v++32::a=w++32::b→v=w∧a=b
 | [],[],a,b,_,_,h=>⟨rfl,by simpa using h⟩
 | [],c::w,a,b,_,h2,h=>by
  simp only [List.nil_append,List.cons_append,List.cons.injEq] at h;exact absurd (by rw [← h.1];exact List.mem_cons_self) h2
 | c::v,[],a,b,h1,_,h=>by
  simp only [List.nil_append,List.cons_append,List.cons.injEq] at h;exact absurd (by rw [h.1];exact List.mem_cons_self) h1
 | c::v,d::w,a,b,h1,h2,h=>by
  simp only [List.cons_append,List.cons.injEq] at h;obtain ⟨rfl,h⟩:=h;have:=zDz (fun g=>h1 (List.mem_cons_of_mem _ g)) (fun g=>h2 (List.mem_cons_of_mem _ g)) h;exact ⟨by rw [this.1],this.2⟩
theorem zEa:∀ {v t a c:List UInt8},(32:UInt8)∉v→v++t=a++32::c→∃ a',a=v++a'∧t=a'++32::c
 | [],t,a,c,_,h=>⟨a,rfl,by simpa using h⟩
 | x::v,t,[],c,h1,h=>by
  simp only [List.nil_append,List.cons_append,List.cons.injEq] at h;exact absurd (by rw [h.1];exact List.mem_cons_self) h1
 | x::v,t,y::a,c,h1,h=>by
  simp only [List.cons_append,List.cons.injEq] at h;obtain ⟨rfl,h⟩:=h;obtain ⟨a',h2,h3⟩:=zEa (fun g=>h1 (List.mem_cons_of_mem _ g)) h;exact ⟨a',by rw [h2];rfl,h3⟩
theorem zJg:∀ {ws:List (List UInt8)} {w a b:List UInt8},(∀ v∈ws,(32:UInt8)∉v)→(32:UInt8)∉w→jn ws=a++32::(w++32::b)→w∈ws
 | [],w,a,b,_,_,h=>by
  have:=congrArg List.length h;simp [jn] at this;omega
 | v::vs,w,[],b,h1,h2,h=>by
  simp only [jn,List.nil_append,List.cons.injEq,true_and] at h;obtain ⟨t,ht⟩:=zKo vs;rw [ht] at h;have:=(zDz (h1 v List.mem_cons_self) h2 h).1;rw [this];exact List.mem_cons_self
 | v::vs,w,c::a,b,h1,h2,h=>by
  simp only [jn,List.cons_append,List.cons.injEq] at h;obtain ⟨a',h3,h4⟩:=zEa (h1 v List.mem_cons_self) h.2;exact List.mem_cons_of_mem _ (zJg (fun u hu=>h1 u (List.mem_cons_of_mem _ hu)) h2 h4)
theorem zXa:∀ {ws:List (List UInt8)} {w:List UInt8},w∈ws→∃ a b,jn ws=a++(32::(w++[32]))++b
 | v::vs,w,h=>by
  rcases List.mem_cons.1 h with rfl | h
  ·obtain ⟨t,ht⟩:=zKo vs;exact ⟨[],t,by rw [jn,ht];simp⟩
  ·obtain ⟨a,b,h2⟩:=zXa h;exact ⟨32::(v++a),b,by rw [jn,h2];simp⟩
theorem zSw {s sub:List UInt8} {j:Nat} (hj:j≤s.length):Lib.occAt s sub j=true↔∃ b,s=s.take j++(sub++b):=by
 unfold Lib.occAt;rw [List.isPrefixOf_iff_prefix];constructor
 ·rintro ⟨t,ht⟩;exact ⟨t,by rw [ht,List.take_append_drop]⟩
 ·rintro ⟨b,hb⟩;refine ⟨b,?_⟩;have h2:=List.take_append_drop j s
  conv at h2=>rhs;rw [hb]
  exact (List.append_cancel_left h2).symm
theorem fI {s sub:List UInt8}:Lib.contains s sub=true↔∃ a b,s=a++sub++b:=by
 unfold Lib.contains;rw [decide_eq_true_iff];constructor
 ·intro h;rcases Lib.index_spec s sub with ⟨h1,_⟩ | ⟨i,h1,h2,h3,_⟩
  ·omega
  ·obtain ⟨b,hb⟩:=(zSw h2).1 h3;exact ⟨s.take i,b,by rw [List.append_assoc];exact hb⟩
 ·rintro ⟨a,b,h⟩;rcases Lib.index_spec s sub with ⟨_,h2⟩ | ⟨i,h1,_,_,_⟩
  ·have hl:a.length≤s.length:=by rw [h,List.append_assoc,lA];omega
   have:=h2 a.length hl;rw [Bool.eq_false_iff] at this;refine absurd ((zSw hl).2 ⟨b,?_⟩) this;rw [List.append_assoc] at h;have e:s.take a.length=a:=by rw [h,List.take_append_of_le_length (nR _),List.take_length]
   rw [e];exact h
  ·omega
theorem zAc {w:List UInt8}:Lib.contains w [32]=true↔(32:UInt8)∈w:=by
 rw [fI];constructor
 ·rintro ⟨a,b,rfl⟩;simp
 ·intro h;obtain ⟨a,b,h⟩:=List.append_of_mem h;exact ⟨a,b,by rw [h];simp⟩
theorem zXb {ws:List (List UInt8)} {w:List UInt8} (h1:∀ v∈ws,(32:UInt8)∉v∧v≠[]):(decide (w≠[])&&(!Lib.contains w [32]&&Lib.contains (jn ws) (32::(w++[32]))))=decide (w∈ws):=by
 rw [Bool.eq_iff_iff];simp only [Bool.and_eq_true,decide_eq_true_eq,Bool.not_eq_true'];constructor
 ·rintro ⟨_,g2,g3⟩;obtain ⟨a,b,h⟩:=fI.1 g3;have h2:(32:UInt8)∉w:=fun hw=>by rw [zAc.2 hw] at g2;cases g2
  exact zJg (a:=a) (b:=b) (fun v hv=>(h1 v hv).1) h2 (by rw [h];simp)
 ·intro h;refine ⟨(h1 w h).2,?_,fI.2 ?_⟩
  ·rw [Bool.eq_false_iff];intro g;exact (h1 w h).1 (zAc.1 g)
  ·obtain ⟨a,b,e⟩:=zXa h;exact ⟨a,b,e⟩
def wordsP (k:Nat):List UInt8 :=
 if k=3∨k=4 then jn wGen else if k=36 then jn wUn else if k=37 then jn wBin
 else if k=45 then jn wChan else if k=52 then jn wInc else if k=53 then jn wAsg else if k=57 then jn wBr else []
theorem zMr (k:Nat):∀ v∈wordsT k,(32:UInt8)∉v∧v≠[]:=by
 by_cases h:k<67
 ·have:∀ k,k<67→∀ v∈wordsT k,(32:UInt8)∉v∧v≠[]:=by decide
  exact this k h
 ·have e:wordsT k=[]:=by unfold wordsT;repeat rw [iN (by omega)]
  rw [e];intro v hv;cases hv
set_option maxRecDepth 100000
set_option maxHeartbeats 32000000
open Go.RowKit
theorem zPz (k:Nat) (hk:k<256) (w:World) :
  Calls Tryz.prog 73 #[.int .u8 (k:Int)] w fun e w'=>e=.returned (.tuple #[.int .i64 ((arL k).1:Int),.bool (arL k).2])∧w=w':=by
 have HQ:Hid (∀ (a:Nat) b,arL k=(a,b)→(fun (e:Ending) w'=>e=.returned (.tuple #[.int .i64 ((arL k).1:Int),.bool (arL k).2])∧w=w') (.returned (.tuple #[.int .i64 (a:Int),.bool b])) w):=Hd fun a b h=>⟨by rw [h],rfl⟩
 generalize (fun (e:Ending) w'=>e=.returned (.tuple #[.int .i64 ((arL k).1:Int),.bool (arL k).2])∧w=w')=Q at *;go_enter Tryz.func73,Tryz.ntmps73;go_wp2_with fail;all_goals simp only [beq_iff_eq,bE] at *
 all_goals first
  | exact HQ.out 0 true (by unfold arL;rw [iP (by omega)])
  | exact HQ.out 1 true (by unfold arL;rw [iN (by omega),iP (by omega)])
  | exact HQ.out 0 false (by unfold arL;rw [iN (by omega),iN (by omega),iP (by omega)])
  | exact HQ.out 1 false (by unfold arL;rw [iN (by omega),iN (by omega),iN (by omega),iP (by omega)])
  | exact HQ.out 3 false (by unfold arL;rw [iN (by omega),iN (by omega),iN (by omega),iN (by omega),iP (by omega)])
  | exact HQ.out 4 false (by unfold arL;rw [iN (by omega),iN (by omega),iN (by omega),iN (by omega),iN (by omega),iP (by omega)])
  | exact HQ.out 5 false (by unfold arL;rw [iN (by omega),iN (by omega),iN (by omega),iN (by omega),iN (by omega),iN (by omega),iP (by omega)])
  | exact HQ.out 2 false (by unfold arL;rw [iN (by omega),iN (by omega),iN (by omega),iN (by omega),iN (by omega),iN (by omega),iN (by omega)])
theorem zQa (k:Nat) (hk:k<256) (w:World) :
  Calls Tryz.prog 112 #[.int .u8 (k:Int)] w fun e w'=>e=.returned (.string ⟨(wordsP k).toArray⟩)∧w=w':=by
 have HQ:Hid (∀ l,wordsP k=l→(fun (e:Ending) w'=>e=.returned (.string ⟨(wordsP k).toArray⟩)∧w=w') (.returned (.string ⟨l.toArray⟩)) w):=Hd fun l h=>⟨by rw [h],rfl⟩
 generalize (fun (e:Ending) w'=>e=.returned (.string ⟨(wordsP k).toArray⟩)∧w=w')=Q at *;go_enter Tryz.func112,Tryz.ntmps112;go_wp2_with fail;all_goals simp only [beq_iff_eq,bE] at *
 all_goals first
  | exact HQ.out (jn wGen) (by unfold wordsP;rw [iP (by omega)])
  | exact HQ.out (jn wUn) (by unfold wordsP;rw [iN (by omega),iP (by omega)])
  | exact HQ.out (jn wBin) (by unfold wordsP;rw [iN (by omega),iN (by omega),iP (by omega)])
  | exact HQ.out (jn wChan) (by unfold wordsP;rw [iN (by omega),iN (by omega),iN (by omega),iP (by omega)])
  | exact HQ.out (jn wInc) (by unfold wordsP;rw [iN (by omega),iN (by omega),iN (by omega),iN (by omega),iP (by omega)])
  | exact HQ.out (jn wAsg) (by unfold wordsP;rw [iN (by omega),iN (by omega),iN (by omega),iN (by omega),iN (by omega),iP (by omega)])
  | exact HQ.out (jn wBr) (by unfold wordsP;rw [iN (by omega),iN (by omega),iN (by omega),iN (by omega),iN (by omega),iN (by omega),iP (by omega)])
  | exact HQ.out [] (by unfold wordsP;rw [iN (by omega),iN (by omega),iN (by omega),iN (by omega),iN (by omega),iN (by omega),iN (by omega)])
end Go.Proofs.YtbjkdmbcpkopjaaGreatDoor
