/- Layer 17 in plain Lean: a rule is sought way by way; the document tries all numbers, the least first: one answer. -/
import Derived.Test.YtfalelkfhandfaaGreatDoorPackMq
import Derived.Test.YtfalelkfhandfaaGreatDoorTermQMq
namespace Go.Proofs.YtfalelkfhandfaaGreatDoor
set_option linter.all false

abbrev Hl:=ByteArray×Nat
def xM (k:Nat):Bool:=k == 5 || k == 7
def isSev (k:Nat):Bool:=k == 6 || k == 7
def yC (f:List Prt) (p:Nat) (h:Hl):Bool :=
 if xM h.2 then (match f[p]?,f[p+1]? with
  | some a,some b=>a.1 == 50&&(b.1 == 26&&decide (b.2.2=h.1))
  | _,_=>false)
 else (match f[p]? with
  | some a=>a.1 == 26&&decide (a.2.2=h.1)
  | none=>false)
def zM (f:List Prt) (hs:List Hl) (p:Nat):Option Nat:=hs.findIdx? (yC f p)
def hkind (hs:List Hl) (h:Nat):Nat:=match hs[h]? with
 | some x=>x.2
 | none=>0
def sevOf (f:List Prt) (hs:List Hl) (p:Nat):Option Nat:=match zM f hs p with
 | some h=>if isSev (hkind hs h) then some h else none
 | none=>none
def oneOf (f:List Prt) (hs:List Hl) (p:Nat):Option Nat:=match zM f hs p with
 | some h=>if isSev (hkind hs h) then none else some h
 | none=>none
def mayB (hole k:Nat):Bool :=
 if hole=1 then decide (26≤k)&&(decide (k≤48)&&k != 38)
 else if hole=2 then k == 26
 else if hole=3 then k == 27
 else if hole=4 then k == 26 || ((decide (28≤k)&&decide (k≤30)) || (k == 35 || (decide (41≤k)&&decide (k≤48))))
 else if hole=5 then decide (49≤k)&&(decide (k≤68)&&(k != 62&&k != 64))
 else true
abbrev MSt:=List (Option (Nat×Nat))
def piece (l:List Prt) (a b:Nat):List Prt:=(l.drop a).take (b-a)
def bindS (l:List Prt) (σ:MSt) (h a b:Nat):Option MSt:=match σ[h]? with
 | some (some q)=>if piece l q.1 q.2=piece l a b then some σ else none
 | some none=>some (σ.set h (some (a,b)))
 | none=>none
def advT (l:List Prt):Nat→Nat→Nat→Option Nat
 | 0,a,_=>some a
 | m+1,a,stop=>if a<stop then advT l m (zA l a) stop else none
def alikeP (f l:List Prt) (p i:Nat):Bool:=match f[p]?,l[i]? with
 | some a,some b=>a.1 == b.1&&decide (a.2.2=b.2.2)
 | _,_=>false
def zX (l:List Prt) (i:Nat):Nat:=match l[i]? with
 | some b=>b.1
 | none=>0
def tosL (l:List Prt):Nat→Nat→Nat→List Nat
 | 0,_,_=>[]
 | m+1,tx,iend=>tx::(if tx=iend then [] else tosL l m (zA l tx) iend)

section
variable (f l:List Prt) (hs:List Hl)
mutual
def fPart (L:Nat→Nat):Nat→Nat→Nat→MSt→Option MSt
 | 0,_,_,_=>none
 | n+1,p,i,σ=>match oneOf f hs p with
  | some h=>if mayB (hkind hs h) (zX l i) then bindS l σ h i (zA l i) else none
  | none=>if alikeP f l p i then fKids L n (p+1) (zA f p) (i+1) (zA l i) σ else none
def fKids (L:Nat→Nat):Nat→Nat→Nat→Nat→Nat→MSt→Option MSt
 | 0,_,_,_,_,_=>none
 | n+1,p,pend,i,stop,σ=>if p=pend then (if i=stop then some σ else none) else
   match sevOf f hs p with
   | some h=>(advT l (L h) i stop).bind fun tx=>(bindS l σ h i tx).bind fun σ'=>fKids L n (zA f p) pend tx stop σ'
   | none=>if i<stop then (fPart L n p i σ).bind fun σ'=>fKids L n (zA f p) pend (zA l i) stop σ' else none
end
def sLoop (l:List Prt) (g:Nat→Option MSt):Nat→Nat→Nat→Option MSt
 | 0,_,_=>none
 | m+1,tx,iend=>match g tx with
  | some r=>some r
  | none=>if tx=iend then none else sLoop l g m (zA l tx) iend
mutual
def sPart:Nat→Nat→Nat→(MSt→Option MSt)→MSt→Option MSt
 | 0,_,_,_,_=>none
 | n+1,p,i,K,σ=>match oneOf f hs p with
  | some h=>if mayB (hkind hs h) (zX l i) then (bindS l σ h i (zA l i)).bind K else none
  | none=>if alikeP f l p i then sKids n (p+1) (zA f p) (i+1) (zA l i) K σ else none
def sKids:Nat→Nat→Nat→Nat→Nat→(MSt→Option MSt)→MSt→Option MSt
 | 0,_,_,_,_,_,_=>none
 | n+1,p,pend,i,stop,K,σ=>if p=pend then (if i=stop then K σ else none) else
   match sevOf f hs p with
   | some h=>sLoop l (fun tx=>(bindS l σ h i tx).bind (sKids n (zA f p) pend tx stop K)) (l.length+1) i stop
   | none=>if i<stop then sPart n p i (sKids n (zA f p) pend (zA l i) stop K) σ else none
end
mutual
def aPart:Nat→Nat→Nat→MSt→List MSt
 | 0,_,_,_=>[]
 | n+1,p,i,σ=>match oneOf f hs p with
  | some h=>if mayB (hkind hs h) (zX l i) then (bindS l σ h i (zA l i)).toList else []
  | none=>if alikeP f l p i then aKids n (p+1) (zA f p) (i+1) (zA l i) σ else []
def aKids:Nat→Nat→Nat→Nat→Nat→MSt→List MSt
 | 0,_,_,_,_,_=>[]
 | n+1,p,pend,i,stop,σ=>if p=pend then (if i=stop then [σ] else []) else
   match sevOf f hs p with
   | some h=>(tosL l (l.length+1) i stop).flatMap fun tx=>(bindS l σ h i tx).toList.flatMap (aKids n (zA f p) pend tx stop)
   | none=>if i<stop then (aPart n p i σ).flatMap (aKids n (zA f p) pend (zA l i) stop) else []
end
theorem jD {α β γ:Type} (K:β→Option γ) (g:α→List β):∀ xs:List α,(xs.flatMap g).findSome? K=xs.findSome? fun x=>(g x).findSome? K
 | []=>rfl
 | x::xs=>by
  rw [List.flatMap_cons,List.findSome?_append,jD K g xs,List.findSome?_cons]
  cases (g x).findSome? K <;> rfl
theorem fB {β γ:Type} (K:β→Option γ) (o:Option β):o.toList.findSome? K=o.bind K:=by
 cases o with
 | none=>rfl
 | some x=>simp [List.findSome?_cons];cases K x <;> rfl
theorem zKj (g:Nat→Option MSt):∀ (m tx iend:Nat),sLoop l g m tx iend=(tosL l m tx iend).findSome? g
 | 0,_,_=>rfl
 | m+1,tx,iend=>by
  rw [sLoop,tosL,List.findSome?_cons]
  cases g tx with
  | some r=>rfl
  | none =>
   simp only []
   split
   ·rfl
   ·exact zKj g m _ _
theorem zWf:∀ n,(∀ p i K σ,sPart f l hs n p i K σ=(aPart f l hs n p i σ).findSome? K)∧(∀ p pend i stop K σ,sKids f l hs n p pend i stop K σ=(aKids f l hs n p pend i stop σ).findSome? K)
 | 0=>⟨fun _ _ _ _=>by rw [sPart,aPart];rfl,fun _ _ _ _ _ _=>by rw [sKids,aKids];rfl⟩
 | n+1=>by
  obtain ⟨h1,h2⟩:=zWf n
  constructor
  ·intro p i K σ
   rw [sPart,aPart]
   cases oneOf f hs p with
   | some h =>
    simp only []
    split
    ·rw [fB]
    ·rfl
   | none =>
    simp only []
    split
    ·exact h2 _ _ _ _ _ _
    ·rfl
  ·intro p pend i stop K σ
   rw [sKids,aKids]
   split
   ·split
    ·simp only [List.findSome?_cons,List.findSome?_nil];cases K σ <;> rfl
    ·rfl
   ·cases sevOf f hs p with
    | some h =>
     simp only []
     rw [zKj,jD]
     congr 1
     funext tx
     rw [jD,fB]
     congr 1
     funext σ'
     exact h2 _ _ _ _ _ _
    | none =>
     simp only []
     split
     ·rw [jD,h1]
      congr 1
      funext σ'
      exact h2 _ _ _ _ _ _
     ·rfl
def MExt (σ τ:MSt):Prop:=σ.length=τ.length∧∀ (h:Nat) (q:Nat×Nat),σ[h]?=some (some q)→τ[h]?=some (some q)
theorem MExt.refl (σ:MSt):MExt σ σ:=⟨rfl,fun _ _ h=>h⟩
theorem MExt.trans {σ τ υ:MSt} (h:MExt σ τ) (g:MExt τ υ):MExt σ υ:=⟨h.1.trans g.1,fun k q e=>g.2 k q (h.2 k q e)⟩
theorem xP {σ τ:MSt} {h a b:Nat} (e:bindS l σ h a b=some τ):MExt σ τ∧∃ q,τ[h]?=some (some q)∧piece l q.1 q.2=piece l a b∧(σ[h]?=some (some q)∨(σ[h]?=some none∧q=(a,b)∧τ=σ.set h (some (a,b)))):=by
 unfold bindS at e
 cases hq:σ[h]? with
 | none=>rw [hq] at e;cases e
 | some o =>
  cases o with
  | some q =>
   rw [hq] at e
   simp only [] at e
   split at e
   ·rename_i hp
    cases e
    exact ⟨MExt.refl _,q,hq,hp,Or.inl rfl⟩
   ·cases e
  | none =>
   rw [hq] at e
   simp only [Option.some.injEq] at e
   subst e
   have hl:h<σ.length:=by
    by_cases c:h<σ.length
    ·exact c
    ·rw [List.getElem?_eq_none (by omega)] at hq;cases hq
   refine ⟨⟨by simp,fun k q hk=>?_⟩,(a,b),by rw [List.getElem?_set_self hl],rfl,Or.inr ⟨rfl,rfl,rfl⟩⟩
   by_cases c:h=k
   ·subst c;rw [hq] at hk;cases hk
   ·rw [List.getElem?_set_ne c];exact hk
theorem gH {σ τ:MSt} {h a b:Nat} (e:bindS l σ h a b=some τ) {k:Nat} (hk:k≠h):τ[k]?=σ[k]?:=by
 obtain ⟨_,q,_,_,h2 | ⟨_,_,rfl⟩⟩:=xP l e
 ·unfold bindS at e
  rw [h2] at e
  simp only [] at e
  split at e <;> (cases e;try rfl)
 ·rw [List.getElem?_set_ne (fun c=>hk c.symm)]
theorem fG:∀ n,(∀ p i σ τ,τ∈aPart f l hs n p i σ→MExt σ τ)∧(∀ p pend i stop σ τ,τ∈aKids f l hs n p pend i stop σ→MExt σ τ)
 | 0=>⟨(fun _ _ _ _ h=>by rw [aPart] at h;cases h),(fun _ _ _ _ _ _ h=>by rw [aKids] at h;cases h)⟩
 | n+1=>by
  obtain ⟨h1,h2⟩:=fG n
  constructor
  ·intro p i σ τ h
   rw [aPart] at h
   cases ho:oneOf f hs p with
   | some k =>
    rw [ho] at h
    simp only [] at h
    split at h
    ·rw [Option.mem_toList] at h;exact (xP l h).1
    ·cases h
   | none =>
    rw [ho] at h
    simp only [] at h
    split at h
    ·exact h2 _ _ _ _ _ _ h
    ·cases h
  ·intro p pend i stop σ τ h
   rw [aKids] at h
   split at h
   ·split at h
    ·simp at h;subst h;exact MExt.refl _
    ·cases h
   ·cases ho:sevOf f hs p with
    | some k =>
     rw [ho] at h
     simp only [List.mem_flatMap,Option.mem_toList] at h
     obtain ⟨tx,_,υ,g1,g2⟩:=h
     exact (xP l g1).1.trans (h2 _ _ _ _ _ _ g2)
    | none =>
     rw [ho] at h
     simp only [] at h
     split at h
     ·simp only [List.mem_flatMap] at h
      obtain ⟨υ,g1,g2⟩:=h
      exact (h1 _ _ _ _ g1).trans (h2 _ _ _ _ _ _ g2)
     ·cases h
end
def cntP (q:List Prt):Nat:=match zF q with
 | some ts=>ts.length
 | none=>0
def lensS (l:List Prt) (σ:MSt) (h:Nat):Nat:=match σ[h]? with
 | some (some q)=>cntP (piece l q.1 q.2)
 | _=>0
theorem yZ {l:List Prt} {us:List Nat} (hl:zF l=some us):∀ (k a stop b:Nat),stop≤l.length→advT l k a stop=some b→a+k≤b
 | 0,a,stop,b,_,h=>by rw [advT] at h;cases h;omega
 | k+1,a,stop,b,hs,h=>by
  rw [advT] at h
  split at h
  ·rename_i hc
   have:=yZ hl k _ _ _ hs h
   have:=(zJ hl (show a<l.length by omega)).1
   omega
  ·cases h
theorem kS (l:List Prt):∀ (k j a stop:Nat),advT l (k+j) a stop=(advT l k a stop).bind fun b=>advT l j b stop
 | 0,j,a,stop=>by rw [Nat.zero_add,advT];rfl
 | k+1,j,a,stop=>by
  rw [show k+1+j=(k+j)+1 by omega,advT,advT]
  split
  ·exact kS l k j _ _
  ·rfl
theorem zEe {l:List Prt} {us:List Nat} (hl:zF l=some us):∀ (k a stop b:Nat),stop≤l.length→advT l k a stop=some b→b≤stop→advT l k a b=some b
 | 0,a,stop,b,_,h,_=>by rw [advT] at h ⊢;cases h;rfl
 | k+1,a,stop,b,hs,h,hb=>by
  rw [advT] at h ⊢
  split at h
  ·rename_i hc
   have h1:=yZ hl k _ _ _ hs h
   have:=(zJ hl (show a<l.length by omega)).1
   rw [if_pos (by omega)]
   exact zEe hl k _ _ _ hs h hb
  ·cases h
theorem fR (l:List Prt) {a b c:Nat} (h1:a≤b) (h2:b≤c):piece l a c=piece l a b++piece l b c:=by
 unfold piece
 rw [show c-a=(b-a)+(c-b) by omega,List.take_add,List.drop_drop,show a+(b-a)=b by omega]
theorem fS {l:List Prt} {us:List Nat} (hl:zF l=some us) {a:Nat} (ha:a<l.length):∃ t,zF (piece l a (zA l a))=some [t]:=by
 obtain ⟨ts,h1,h2⟩:=zBj _ _ _ _ _ (zUk hl ha)
 match ts,h2 with
 | [t],_=>exact ⟨t,h1⟩
theorem fH {l:List Prt} {us:List Nat} (hl:zF l=some us):∀ (k a b:Nat),b≤l.length→advT l k a b=some b→∃ ts,zF (piece l a b)=some ts∧ts.length=k
 | 0,a,b,hb,h=>by
  rw [advT] at h;cases h
  unfold piece;rw [Nat.sub_self,List.take_zero];exact ⟨[],rfl,rfl⟩
 | k+1,a,b,hb,h=>by
  rw [advT] at h
  split at h
  ·rename_i hc
   obtain ⟨ts,h1,h2⟩:=fH hl k _ _ hb h
   have hle:=yZ hl k _ _ _ hb h
   have hg:=(zJ hl (show a<l.length by omega)).1
   obtain ⟨t,ht⟩:=fS hl (show a<l.length by omega)
   rw [fR l (by omega) (show zA l a≤b by omega)]
   exact ⟨_,gK ht h1,by simp [h2]⟩
  ·cases h
theorem zIf {l:List Prt} {us:List Nat} (hl:zF l=some us) {k a b stop:Nat} (hs:stop≤l.length) (h:advT l k a stop=some b) (hb:b≤stop):cntP (piece l a b)=k:=by
 obtain ⟨ts,h1,h2⟩:=fH hl k a b (by omega) (zEe hl k a stop b hs h hb)
 unfold cntP;rw [h1];exact h2
theorem vI {l:List Prt} {us:List Nat} (hl:zF l=some us) {K k a stop b:Nat} (hs:stop≤l.length) (hK:advT l K a stop=some stop) (hk:advT l k a stop=some b):k≤K∧b≤stop∧advT l (K-k) b stop=some stop:=by
 have hle:k≤K:=by
  rcases Nat.lt_or_ge K k with h | h
  ·exfalso
   rw [show k=K+((k-K-1)+1) by omega,kS,hK] at hk
   simp only [Option.bind_some] at hk
   rw [advT,if_neg (by omega)] at hk
   cases hk
  ·exact h
 have h2:=hK
 rw [show K=k+(K-k) by omega,kS,hk] at h2
 simp only [Option.bind_some] at h2
 have:=yZ hl _ _ _ _ hs h2
 exact ⟨hle,by omega,h2⟩
theorem yR {l:List Prt} {K a stop:Nat} (hK:advT l K a stop=some stop) (ha:a≠stop):a<stop∧∃ J,K=J+1∧advT l J (zA l a) stop=some stop:=by
 cases K with
 | zero=>rw [advT] at hK;cases hK;exact absurd rfl ha
 | succ J =>
  rw [advT] at hK
  split at hK
  ·exact ⟨by assumption,J,rfl,hK⟩
  ·cases hK
theorem yW {l:List Prt} {us:List Nat} (hl:zF l=some us) {i:Nat} (hi:i<l.length):∃ q,(l[i]).2.1=((q:Nat):Int)∧advT l q (i+1) (zA l i)=some (zA l i):=by
 obtain ⟨ts,q,h1,h2,h3,h4,_⟩:=zAt hl hi
 refine ⟨q,h2,?_⟩
 have key:∀ m n,n+m=q→advT l m (i+1+(ts.take n).sum) (zA l i)=some (zA l i):=by
  intro m
  induction m with
  | zero=>intro n e;rw [advT,h4,show n=q by omega]
  | succ m ih =>
   intro n e
   obtain ⟨g1,g2,_,g4,_⟩:=gL hl h1 h3 (show n<q by omega)
   rw [advT,if_pos (by omega),g2]
   exact ih (n+1) (by omega)
 have:=key q 0 (by omega)
 simpa using this
theorem jX {l:List Prt} {us:List Nat} (hl:zF l=some us) {stop:Nat} (hs:stop≤l.length):∀ (m a K tx:Nat),advT l K a stop=some stop→stop-a<m→(tx∈tosL l m a stop↔∃ k,advT l k a stop=some tx)
 | 0,a,K,tx,_,h=>by omega
 | m+1,a,K,tx,hK,hm=>by
  rw [tosL,List.mem_cons]
  constructor
  ·rintro (rfl | h)
   ·exact ⟨0,rfl⟩
   ·split at h
    ·cases h
    ·rename_i hne
     obtain ⟨hlt,J,rfl,hJ⟩:=yR hK hne
     have:=(zJ hl (show a<l.length by omega)).1
     obtain ⟨k,hk⟩:=(jX hl hs m (zA l a) J tx hJ (by omega)).1 h
     exact ⟨k+1,by rw [advT,if_pos hlt];exact hk⟩
  ·rintro ⟨k,hk⟩
   cases k with
   | zero=>rw [advT] at hk;cases hk;exact Or.inl rfl
   | succ k =>
    rw [advT] at hk
    split at hk
    ·rename_i hlt
     obtain ⟨_,J,rfl,hJ⟩:=yR hK (show a≠stop by omega)
     have:=(zJ hl (show a<l.length by omega)).1
     right
     rw [if_neg (by omega)]
     exact (jX hl hs m (zA l a) J tx hJ (by omega)).2 ⟨k,hk⟩
    ·cases hk
section
variable (f l:List Prt) (hs:List Hl)
def MAgree (L:Nat→Nat) (υ:MSt):Prop:=∀ h q,isSev (hkind hs h)=true→υ[h]?=some (some q)→L h=cntP (piece l q.1 q.2)
theorem vV {p h:Nat} (e:sevOf f hs p=some h):isSev (hkind hs h)=true∧zM f hs p=some h:=by
 unfold sevOf at e
 cases ho:zM f hs p with
 | none=>rw [ho] at e;cases e
 | some k =>
  rw [ho] at e
  simp only [] at e
  split at e
  ·cases e;exact ⟨by assumption,rfl⟩
  ·cases e
theorem zBr {p h:Nat} (e:oneOf f hs p=some h):isSev (hkind hs h)=false∧zM f hs p=some h∧sevOf f hs p=none:=by
 unfold oneOf at e
 unfold sevOf
 cases ho:zM f hs p with
 | none=>rw [ho] at e;cases e
 | some k =>
  rw [ho] at e
  simp only [] at e ⊢
  split at e
  ·cases e
  ·cases e
   rename_i hx
   rw [if_neg hx]
   exact ⟨by simpa using hx,rfl,rfl⟩
theorem zOh {us:List Nat} (hl:zF l=some us):∀ n,(∀ p i σ τ,i<l.length→τ∈aPart f l hs n p i σ→∀ υ L,MExt τ υ→MAgree l hs L υ→fPart f l hs L n p i σ=some τ) ∧
  (∀ p pend i stop σ τ K,stop≤l.length→advT l K i stop=some stop→τ∈aKids f l hs n p pend i stop σ→∀ υ L,MExt τ υ→MAgree l hs L υ→fKids f l hs L n p pend i stop σ=some τ)
 | 0=>⟨(fun _ _ _ _ _ h=>by rw [aPart] at h;cases h),(fun _ _ _ _ _ _ _ _ _ h=>by rw [aKids] at h;cases h)⟩
 | n+1=>by
  obtain ⟨h1,h2⟩:=zOh hl n
  constructor
  ·intro p i σ τ hi h υ L he ha
   rw [aPart] at h
   rw [fPart]
   cases ho:oneOf f hs p with
   | some k =>
    rw [ho] at h
    simp only [] at h ⊢
    split at h
    ·rename_i hm
     rw [if_pos hm]
     rw [Option.mem_toList] at h;exact h
    ·cases h
   | none =>
    rw [ho] at h
    simp only [] at h ⊢
    split at h
    ·rename_i hm
     rw [if_pos hm]
     obtain ⟨q,_,hq⟩:=yW hl hi
     exact h2 _ _ _ _ _ _ q (zJ hl hi).2 hq h υ L he ha
    ·cases h
  ·intro p pend i stop σ τ K hst hK h υ L he ha
   rw [aKids] at h
   rw [fKids]
   split at h
   ·rename_i hp
    rw [if_pos hp]
    split at h
    ·rename_i hi
     rw [if_pos hi]
     simp at h;rw [h]
    ·cases h
   ·rename_i hp
    rw [if_neg hp]
    cases ho:sevOf f hs p with
    | some k =>
     rw [ho] at h
     simp only [List.mem_flatMap,Option.mem_toList] at h ⊢
     obtain ⟨tx,hto,υ',g1,g2⟩:=h
     obtain ⟨m,hm⟩:=(jX hl hst _ _ K tx hK (by omega)).1 hto
     obtain ⟨r1,r2,r3⟩:=vI hl hst hK hm
     have hext:=(fG f l hs n).2 _ _ _ _ _ _ g2
     obtain ⟨_,q,q1,q2,_⟩:=xP l g1
     have hL:=ha k q (vV f hs ho).1 (he.2 _ _ (hext.2 _ _ q1))
     rw [q2,zIf hl hst hm r2] at hL
     rw [hL,hm,Option.bind_some,g1,Option.bind_some]
     exact h2 _ _ _ _ _ _ _ hst r3 g2 υ L he ha
    | none =>
     rw [ho] at h
     simp only [] at h ⊢
     split at h
     ·rename_i hi
      rw [if_pos hi]
      simp only [List.mem_flatMap] at h
      obtain ⟨υ',g1,g2⟩:=h
      have hext:=(fG f l hs n).2 _ _ _ _ _ _ g2
      obtain ⟨_,J,_,hJ⟩:=yR hK (show i≠stop by omega)
      rw [h1 _ _ _ _ (by omega) g1 υ L (hext.trans he) ha,Option.bind_some]
      exact h2 _ _ _ _ _ _ J hst hJ g2 υ L he ha
     ·cases h
def occL (p pend:Nat):List Nat:=(List.range' p (pend-p)).filterMap (sevOf f hs)
theorem zDe {p m pend:Nat} (h1:p≤m) (h2:m≤pend):occL f hs p pend=occL f hs p m++occL f hs m pend:=by
 unfold occL
 rw [← List.filterMap_append,show pend-p=(m-p)+(pend-m) by omega]
 congr 1
 have:=List.range'_append (s:=p) (m:=m-p) (n:=pend-m) (step:=1)
 rw [Nat.one_mul,show p+(m-p)=m by omega] at this
 exact this.symm
theorem zVk (p:Nat):occL f hs p p=[]:=by unfold occL;rw [Nat.sub_self];rfl
theorem zOi {p:Nat}:occL f hs p (p+1)=(sevOf f hs p).toList:=by
 unfold occL
 rw [show p+1-p=1 by omega]
 simp [List.range'_succ,List.filterMap_cons]
 cases sevOf f hs p <;> rfl
theorem zSu {p m:Nat} (h:∀ q,p≤q→q<m→sevOf f hs q=none):occL f hs p m=[]:=by
 unfold occL
 rw [List.filterMap_eq_nil_iff]
 intro a ha
 rw [List.mem_range'_1] at ha
 exact h a ha.1 (by omega)
def MBare:Prop:=∀ p h,p<f.length→zM f hs p=some h→∀ q,p<q→q<zA f p→sevOf f hs q=none
end
def MBnd (τ:MSt) (h:Nat):Prop:=∃ q,τ[h]?=some (some q)
theorem MBnd.ext {σ τ:MSt} {h:Nat} (hb:MBnd σ h) (he:MExt σ τ):MBnd τ h:=by obtain ⟨q,hq⟩:=hb;exact ⟨q,he.2 _ _ hq⟩
section
variable (f l:List Prt) (hs:List Hl)
theorem zIg {uf:List Nat} (hf:zF f=some uf) (hB:MBare f hs) {p:Nat} (hp:p<f.length) {h:Nat} (ho:zM f hs p=some h):occL f hs p (zA f p)=(sevOf f hs p).toList:=by
 have hg:=(zJ hf hp).1
 rw [zDe f hs (show p≤p+1 by omega) (show p+1≤zA f p by omega),zOi,zSu f hs (p:=p+1) (m:=zA f p) (fun q h1 h2=>hB p h hp ho q (by omega) h2),List.append_nil]
theorem zSv {uf:List Nat} (hf:zF f=some uf) {p:Nat} (hp:p<f.length) (ho:sevOf f hs p=none):occL f hs p (zA f p)=occL f hs (p+1) (zA f p):=by
 have hg:=(zJ hf hp).1
 rw [zDe f hs (show p≤p+1 by omega) (show p+1≤zA f p by omega),zOi,ho]
 rfl
theorem zOj {uf:List Nat} (hf:zF f=some uf) (hB:MBare f hs):∀ n,(∀ p i σ τ,p<f.length→sevOf f hs p=none→τ∈aPart f l hs n p i σ→∀ h∈occL f hs p (zA f p),MBnd τ h) ∧
  (∀ p pend i stop σ τ K,pend≤f.length→advT f K p pend=some pend→τ∈aKids f l hs n p pend i stop σ→∀ h∈occL f hs p pend,MBnd τ h)
 | 0=>⟨(fun _ _ _ _ _ _ h=>by rw [aPart] at h;cases h),(fun _ _ _ _ _ _ _ _ _ h=>by rw [aKids] at h;cases h)⟩
 | n+1=>by
  obtain ⟨h1,h2⟩:=zOj hf hB n
  constructor
  ·intro p i σ τ hp hsv h k hk
   rw [aPart] at h
   cases ho:oneOf f hs p with
   | some j =>
    have hj:=zBr f hs ho
    rw [zIg f hs hf hB hp hj.2.1,hsv] at hk
    cases hk
   | none =>
    rw [ho] at h
    simp only [] at h
    split at h
    ·rw [zSv f hs hf hp hsv] at hk
     obtain ⟨q,_,hq⟩:=yW hf hp
     exact h2 _ _ _ _ _ _ q (zJ hf hp).2 hq h k hk
    ·cases h
  ·intro p pend i stop σ τ K hpe hK h k hk
   rw [aKids] at h
   split at h
   ·rename_i hp
    subst hp
    rw [zVk] at hk;cases hk
   ·rename_i hp
    obtain ⟨hlt,J,_,hJ⟩:=yR hK hp
    have hle:=yZ hf _ _ _ _ hpe hJ
    have hg:=(zJ hf (show p<f.length by omega)).1
    rw [zDe f hs (show p≤zA f p by omega) (show zA f p≤pend by omega),List.mem_append] at hk
    cases ho:sevOf f hs p with
    | some j =>
     rw [ho] at h
     simp only [List.mem_flatMap,Option.mem_toList] at h
     obtain ⟨tx,hto,υ,g1,g2⟩:=h
     rcases hk with hk | hk
     ·rw [zIg f hs hf hB (by omega) (vV f hs ho).2,ho] at hk
      simp at hk
      subst hk
      obtain ⟨_,q,q1,_⟩:=xP l g1
      exact MBnd.ext ⟨q,q1⟩ ((fG f l hs n).2 _ _ _ _ _ _ g2)
     ·exact h2 _ _ _ _ _ _ J hpe hJ g2 k hk
    | none =>
     rw [ho] at h
     simp only [] at h
     split at h
     ·simp only [List.mem_flatMap] at h
      obtain ⟨υ,g1,g2⟩:=h
      rcases hk with hk | hk
      ·exact (h1 _ _ _ _ (by omega) ho g1 k hk).ext ((fG f l hs n).2 _ _ _ _ _ _ g2)
      ·exact h2 _ _ _ _ _ _ J hpe hJ g2 k hk
     ·cases h
theorem zWg {uf:List Nat} (hf:zF f=some uf) (hB:MBare f hs) {us:List Nat} (hl:zF l=some us) {most:Nat} (hm:∀ i (hi:i<l.length),(l[i]).2.1≤(most:Int)):∀ n,(∀ p i σ τ,p<f.length→i<l.length→sevOf f hs p=none→τ∈aPart f l hs n p i σ→∀ h q,isSev (hkind hs h)=true→τ[h]?=some (some q)→σ[h]?=some (some q)∨(h∈occL f hs p (zA f p)∧cntP (piece l q.1 q.2)≤most)) ∧
  (∀ p pend i stop σ τ K J,pend≤f.length→advT f K p pend=some pend→stop≤l.length→advT l J i stop=some stop→J≤most→τ∈aKids f l hs n p pend i stop σ→∀ h q,isSev (hkind hs h)=true→τ[h]?=some (some q)→σ[h]?=some (some q)∨(h∈occL f hs p pend∧cntP (piece l q.1 q.2)≤most))
 | 0=>⟨(fun _ _ _ _ _ _ _ h=>by rw [aPart] at h;cases h),(fun _ _ _ _ _ _ _ _ _ _ _ _ _ h=>by rw [aKids] at h;cases h)⟩
 | n+1=>by
  obtain ⟨h1,h2⟩:=zWg hf hB hl hm n
  constructor
  ·intro p i σ τ hp hi hsv h k q hk hq
   rw [aPart] at h
   cases ho:oneOf f hs p with
   | some j =>
    rw [ho] at h
    simp only [] at h
    split at h
    ·rw [Option.mem_toList] at h
     have hj:=zBr f hs ho
     have hne:k≠j:=fun e=>by subst e;rw [hj.1] at hk;cases hk
     rw [gH l h hne] at hq
     exact Or.inl hq
    ·cases h
   | none =>
    rw [ho] at h
    simp only [] at h
    split at h
    ·rw [zSv f hs hf hp hsv]
     obtain ⟨a,_,ha⟩:=yW hf hp
     obtain ⟨b,hbk,hb⟩:=yW hl hi
     have:=hm i hi
     exact h2 _ _ _ _ _ _ a b (zJ hf hp).2 ha (zJ hl hi).2 hb (by omega) h k q hk hq
    ·cases h
  ·intro p pend i stop σ τ K M hpe hK hst hM hMm h k q hk hq
   rw [aKids] at h
   split at h
   ·split at h
    ·simp at h;subst h;exact Or.inl hq
    ·cases h
   ·rename_i hp
    obtain ⟨hlt,J,_,hJ⟩:=yR hK hp
    have hle:=yZ hf _ _ _ _ hpe hJ
    have hg:=(zJ hf (show p<f.length by omega)).1
    rw [zDe f hs (show p≤zA f p by omega) (show zA f p≤pend by omega),List.mem_append]
    cases ho:sevOf f hs p with
    | some j =>
     rw [ho] at h
     simp only [List.mem_flatMap,Option.mem_toList] at h
     obtain ⟨tx,hto,υ,g1,g2⟩:=h
     obtain ⟨m,hm2⟩:=(jX hl hst _ _ M tx hM (by omega)).1 hto
     obtain ⟨r1,r2,r3⟩:=vI hl hst hM hm2
     rcases h2 _ _ _ _ _ _ J (M-m) hpe hJ hst r3 (by omega) g2 k q hk hq with g3 | g3
     ·by_cases hne:k=j
      ·subst hne
       obtain ⟨_,q',q1,_,q3 | ⟨_,q3,_⟩⟩:=xP l g1
       ·rw [g3] at q1;cases q1;exact Or.inl q3
       ·rw [g3] at q1;cases q1
        right
        refine ⟨Or.inl ?_,?_⟩
        ·rw [zIg f hs hf hB (by omega) (vV f hs ho).2,ho];simp
        ·subst q3;rw [zIf hl hst hm2 r2];omega
      ·rw [gH l g1 hne] at g3;exact Or.inl g3
     ·exact Or.inr ⟨Or.inr g3.1,g3.2⟩
    | none =>
     rw [ho] at h
     simp only [] at h
     split at h
     ·rename_i hi
      simp only [List.mem_flatMap] at h
      obtain ⟨υ,g1,g2⟩:=h
      obtain ⟨_,M',e,hM'⟩:=yR hM (show i≠stop by omega)
      rcases h2 _ _ _ _ _ _ J M' hpe hJ hst hM' (by omega) g2 k q hk hq with g3 | g3
      ·rcases h1 _ _ _ _ (by omega) (by omega) ho g1 k q hk g3 with g4 | g4
       ·exact Or.inl g4
       ·exact Or.inr ⟨Or.inl g4.1,g4.2⟩
      ·exact Or.inr ⟨Or.inr g3.1,g3.2⟩
     ·cases h
end
def ddL:List Nat→List Nat→List Nat
 | acc,[]=>acc
 | acc,h::t=>if h∈acc then ddL acc t else ddL (acc++[h]) t
theorem zIh:∀ (o acc:List Nat) (h:Nat),h∈ddL acc o↔h∈acc∨h∈o
 | [],acc,h=>by simp [ddL]
 | k::t,acc,h=>by
  rw [ddL]
  split
  ·rename_i hc
   rw [zIh t acc h,List.mem_cons]
   constructor
   ·rintro (h1 | h1)
    ·exact Or.inl h1
    ·exact Or.inr (Or.inr h1)
   ·rintro (h1 | rfl | h1)
    ·exact Or.inl h1
    ·exact Or.inl hc
    ·exact Or.inr h1
  ·rw [zIh t _ h,List.mem_append,List.mem_singleton,List.mem_cons]
   constructor
   ·rintro ((h1 | h1) | h1)
    ·exact Or.inl h1
    ·exact Or.inr (Or.inl h1)
    ·exact Or.inr (Or.inr h1)
   ·rintro (h1 | h1 | h1)
    ·exact Or.inl (Or.inl h1)
    ·exact Or.inl (Or.inr h1)
    ·exact Or.inr h1
def valD (B:Nat):List Nat→Nat
 | []=>0
 | d::t=>d*B ^ t.length+valD B t
theorem zIi {B:Nat}:∀ {D:List Nat},(∀ d∈D,d<B)→valD B D<B ^ D.length
 | [],_=>by simp [valD]
 | d::t,h=>by
  rw [valD,List.length_cons,Nat.pow_succ]
  have h1:=zIi (D:=t) (fun x hx=>h x (by simp [hx]))
  have h2:=h d (by simp)
  have h3:(d+1)*B ^ t.length≤B*B ^ t.length:=Nat.mul_le_mul_right _ h2
  rw [Nat.add_mul,Nat.one_mul] at h3
  rw [Nat.mul_comm (B ^ t.length) B]
  omega
theorem zKk {B:Nat}:∀ {D E:List Nat},D.length=E.length→(∀ d∈D,d<B)→(∀ d∈E,d<B)→valD B D=valD B E→D=E
 | [],[],_,_,_,_=>rfl
 | [],_::_,h,_,_,_=>by simp at h
 | _::_,[],h,_,_,_=>by simp at h
 | d::D,e::E,hl,hd,he,h=>by
  rw [valD,valD] at h
  simp at hl
  rw [hl] at h
  have h1:=zIi (B:=B) (D:=D) (fun x hx=>hd x (by simp [hx]))
  have h2:=zIi (B:=B) (D:=E) (fun x hx=>he x (by simp [hx]))
  rw [hl] at h1
  have e1:d=e:=by
   rcases Nat.lt_trichotomy d e with h3 | h3 | h3
   ·have h4:(d+1)*B ^ E.length≤e*B ^ E.length:=Nat.mul_le_mul_right _ h3
    rw [Nat.add_mul,Nat.one_mul] at h4;omega
   ·exact h3
   ·have h4:(e+1)*B ^ E.length≤d*B ^ E.length:=Nat.mul_le_mul_right _ h3
    rw [Nat.add_mul,Nat.one_mul] at h4;omega
  subst e1
  rw [zKk hl (fun x hx=>hd x (by simp [hx])) (fun x hx=>he x (by simp [hx])) (by omega)]
def incrD (most:Nat):List Nat→Option (List Nat)
 | []=>none
 | d::t=>match incrD most t with
  | some t'=>some (d::t')
  | none=>if d<most then some ((d+1)::t.map fun _=>0) else none
theorem zBs (B:Nat):∀ t:List Nat,valD B (t.map fun _=>0)=0
 | []=>rfl
 | d::t=>by rw [List.map_cons,valD,zBs B t];simp
theorem zGt {most:Nat}:∀ {D:List Nat},(∀ d∈D,d≤most)→(incrD most D=none↔∀ d∈D,d=most)
 | [],_=>by simp [incrD]
 | d::t,h=>by
  have ih:=zGt (D:=t) (fun x hx=>h x (by simp [hx]))
  have hd:=h d (by simp)
  rw [incrD]
  cases hi:incrD most t with
  | some t' =>
   simp only []
   constructor
   ·intro e;cases e
   ·intro e
    rw [ih.2 (fun x hx=>e x (by simp [hx]))] at hi;cases hi
  | none =>
   simp only []
   have:=ih.1 hi
   split
   ·rename_i hc
    constructor
    ·intro e;cases e
    ·intro e;have:=e d (by simp);omega
   ·constructor
    ·intro _ x hx
     rcases List.mem_cons.1 hx with rfl | hx
     ·omega
     ·exact this x hx
    ·intro _;rfl
theorem zGu {most:Nat}:∀ {D:List Nat},(∀ d∈D,d=most)→valD (most+1) D+1=(most+1) ^ D.length
 | [],_=>by simp [valD]
 | d::t,h=>by
  rw [valD,List.length_cons,Nat.pow_succ,h d (by simp)]
  have:=zGu (D:=t) (fun x hx=>h x (by simp [hx]))
  rw [Nat.add_assoc,this,Nat.mul_add,Nat.mul_one,Nat.mul_comm]
theorem zGv {most:Nat}:∀ {D E:List Nat},(∀ d∈D,d≤most)→incrD most D=some E→valD (most+1) E=valD (most+1) D+1∧E.length=D.length∧∀ d∈E,d≤most
 | [],E,_,h=>by rw [incrD] at h;cases h
 | d::t,E,hd,h=>by
  rw [incrD] at h
  cases hi:incrD most t with
  | some t' =>
   rw [hi] at h
   cases h
   obtain ⟨h1,h2,h3⟩:=zGv (D:=t) (fun x hx=>hd x (by simp [hx])) hi
   refine ⟨by rw [valD,valD,h1,h2];omega,by simp [h2],fun x hx=>?_⟩
   rcases List.mem_cons.1 hx with rfl | hx
   ·exact hd _ (by simp)
   ·exact h3 x hx
  | none =>
   rw [hi] at h
   simp only [] at h
   split at h
   ·cases h
    have h1:=(zGt (D:=t) (fun x hx=>hd x (by simp [hx]))).1 hi
    have h2:=zGu h1
    refine ⟨?_,by simp,fun x hx=>?_⟩
    ·rw [valD,valD,zBs,List.length_map,Nat.add_mul,Nat.one_mul];omega
    ·rcases List.mem_cons.1 hx with rfl | hx
     ·omega
     ·rw [List.mem_map] at hx;obtain ⟨_,_,rfl⟩:=hx;omega
   ·cases h
def LD (os D:List Nat) (h:Nat):Nat:=match os.idxOf? h with
 | some j=>D.getD j 0
 | none=>0
theorem zWu {os:List Nat} (a:Nat→Nat) {h:Nat} (hm:h∈os):LD os (os.map a) h=a h:=by
 unfold LD
 cases hi:os.idxOf? h with
 | none=>rw [List.idxOf?_eq_none_iff] at hi;exact absurd hm hi
 | some j =>
  simp only []
  rw [List.idxOf?,List.findIdx?_eq_some_iff_getElem] at hi
  obtain ⟨h1,h2,_⟩:=hi
  rw [List.getD_eq_getElem?_getD,List.getElem?_map,List.getElem?_eq_getElem h1]
  simp at h2
  simp [h2]
section
variable (f l:List Prt) (hs:List Hl)
def orderL:List Nat:=ddL [] (occL f hs 0 f.length)
def MTried (most N i:Nat) (σ:MSt) (D:List Nat):Prop:=∀ E:List Nat,E.length=(orderL f hs).length→(∀ d∈E,d≤most)→valD (most+1) E<valD (most+1) D→fPart f l hs (LD (orderL f hs) E) N 0 i σ=none
structure MFit (most i:Nat):Prop where
 F:zZ f=true
 B:MBare f hs
 T:sevOf f hs 0=none
 L:∃ us,zF l=some us
 I:i<l.length
 M:∀ i (hi:i<l.length),(l[i]).2.1≤(most:Int)
variable {f l hs}
theorem MFit.head {most i N:Nat} {σ:MSt} (h:MFit f l hs most i) (h0:∀ (k:Nat) (q:Nat×Nat),σ[k]?≠some (some q)) {σ1:MSt} (hm:σ1∈aPart f l hs N 0 i σ) :
  fPart f l hs (LD (orderL f hs) ((orderL f hs).map (lensS l σ1))) N 0 i σ=some σ1∧∀ k∈orderL f hs,lensS l σ1 k≤most:=by
 obtain ⟨us,hl⟩:=h.L
 have hf:=zI h.F
 obtain ⟨hf0,hfe⟩:=yD h.F
 have hnew:=(zWg f l hs hf h.B hl h.M N).1 0 i σ σ1 hf0 h.I h.T hm
 rw [hfe] at hnew
 refine ⟨(zOh f l hs hl N).1 0 i σ σ1 h.I hm σ1 _ (MExt.refl _) (fun k q hk hq=>?_),fun k hk=>?_⟩
 ·rcases hnew k q hk hq with h1 | ⟨h1,_⟩
  ·exact absurd h1 (h0 k q)
  ·rw [zWu _ (by unfold orderL;rw [zIh];exact Or.inr h1)]
   unfold lensS;rw [hq]
 ·unfold orderL at hk
  rw [zIh] at hk
  rcases hk with hk | hk
  ·cases hk
  ·have hsev:isSev (hkind hs k)=true:=by
    unfold occL at hk
    rw [List.mem_filterMap] at hk
    obtain ⟨p,_,hp⟩:=hk
    exact (vV f hs hp).1
   have hb:=(zOj f l hs hf h.B N).1 0 i σ σ1 hf0 h.T hm k (by rw [hfe];exact hk)
   obtain ⟨q,hq⟩:=hb
   rcases hnew k q hsev hq with h1 | ⟨_,h1⟩
   ·exact absurd h1 (h0 k q)
   ·unfold lensS;rw [hq];exact h1
theorem MTried.next {most i N:Nat} {σ:MSt} {D E:List Nat} (hD:D.length=(orderL f hs).length) (hd:∀ d∈D,d≤most) (hm:incrD most D=some E) (ht:MTried f l hs most N i σ D) (hp:fPart f l hs (LD (orderL f hs) D) N 0 i σ=none):MTried f l hs most N i σ E:=by
 intro G hG hg hlt
 obtain ⟨h1,_,_⟩:=zGv hd hm
 rcases Nat.lt_or_ge (valD (most+1) G) (valD (most+1) D) with h5 | h5
 ·exact ht G hG hg h5
 ·rw [zKk (B:=most+1) (D:=G) (E:=D) (by omega) (fun d hd'=>by have:=hg d hd';omega) (fun d hd'=>by have:=hd d hd';omega) (by omega)]
  exact hp
theorem MTried.start (f l:List Prt) (hs:List Hl) (most N i:Nat) (σ:MSt):MTried f l hs most N i σ ((orderL f hs).map fun _=>0):=by
 intro G hG hg hlt
 rw [zBs] at hlt;omega
end
structure RuleM where
 nm:ByteArray
 goal:Nat
 holes:List Hl
 fnd:List Prt
 by':List Prt
def kindI (l:List Prt) (i:Int):Option Nat:=if i<0 then none else (l[i.toNat]?).map (·.1)
def upN (l:List Prt) (i:Nat):Int:=upI l i i
def xZ (l:List Prt) (k i:Nat):Bool :=
 if k=5 then kindI l (upN l i) == some 50
 else if k=7 then kindI l (upN l i) == some 50&&kindI l (upN l (upN l i).toNat) == some 13
 else if k=6 then kindI l (upN l i) == some 11 || kindI l (upN l i) == some 12
 else true
def vG (p:Prt) (h:Hl):Bool:=p.1 == 26&&decide (p.2.2=h.1)
def vZ (l:List Prt) (h:Hl):Nat→Nat→Int→Int
 | 0,_,n=>n
 | m+1,i,n=>match l[i]? with
  | none=>n
  | some p=>if vG p h then (if xZ l h.2 i then vZ l h m (i+1) (n+1) else -1) else vZ l h m (i+1) n
def yV (l:List Prt) (h:Hl):Int:=vZ l h l.length 0 0
theorem zAk (l:List Prt) (h:Hl):∀ m i n,0≤n→i+m=l.length→0≤vZ l h m i n→∀ p (hp:p<l.length),i≤p→vG l[p] h=true→xZ l h.2 p=true
 | 0,i,n,hn,hi,_,p,hp,hip,_=>by omega
 | m+1,i,n,hn,hi,h0,p,hp,hip,hpl=>by
  rw [vZ,List.getElem?_eq_getElem (by omega)] at h0
  simp only [] at h0
  by_cases e:i=p
  ·subst e
   rw [if_pos hpl] at h0
   split at h0
   ·assumption
   ·omega
  ·split at h0
   ·split at h0
    ·exact zAk l h m (i+1) (n+1) (by omega) (by omega) h0 p hp (by omega) hpl
    ·omega
   ·exact zAk l h m (i+1) n hn (by omega) h0 p hp (by omega) hpl
theorem zAy (l:List Prt) (h:Hl):∀ m i n,0≤n→i+m=l.length→n<vZ l h m i n→∃ p,∃ hp:p<l.length,vG l[p] h=true
 | 0,i,n,hn,hi,h0=>by rw [vZ] at h0;omega
 | m+1,i,n,hn,hi,h0=>by
  rw [vZ,List.getElem?_eq_getElem (by omega)] at h0
  simp only [] at h0
  split at h0
  ·rename_i e;exact ⟨i,by omega,e⟩
  ·exact zAy l h m (i+1) n hn (by omega) h0
structure xN (f:List Prt) (hs:List Hl):Prop where
 well:zZ f=true
 uniq:∀ (a b:Nat) (ha:a<hs.length) (hb:b<hs.length),(hs[a]).1=(hs[b]).1→a=b
 leaf:∀ (p:Nat) (hp:p<f.length),(f[p]).1=26→(f[p]).2.1=0
 stmt:∀ (p:Nat) (hp:p<f.length),(f[p]).1=50→(f[p]).2.1=1
 plc:∀ (h:Nat) (hh:h<hs.length) (p:Nat) (hp:p<f.length),vG f[p] hs[h]=true→xZ f (hs[h]).2 p=true
theorem jU {f:List Prt} {uf:List Nat} (hf:zF f=some uf) {p:Nat} (hp:p<f.length) (h:(f[p]).2.1=0):zA f p=p+1:=by
 obtain ⟨q,h1,h2⟩:=yW hf hp
 obtain rfl:q=0:=by omega
 rw [advT] at h2;have:=Option.some.inj h2;omega
theorem gI {f:List Prt} {uf:List Nat} (hf:zF f=some uf) {p:Nat} (hp:p<f.length) (h:(f[p]).2.1=1):p+1<f.length∧zA f (p+1)=zA f p:=by
 obtain ⟨q,h1,h2⟩:=yW hf hp
 obtain rfl:q=1:=by omega
 rw [advT] at h2
 split at h2
 ·rename_i hc
  rw [advT] at h2
  have:=(zJ hf hp).2
  exact ⟨by omega,by simpa using h2⟩
 ·cases h2
theorem yQ {f:List Prt} {p:Nat} {h:Hl} (e:yC f p h=true):(xM h.2=true∧∃ (h1:p<f.length) (h2:p+1<f.length),(f[p]).1=50∧vG (f[p+1]) h=true)∨(xM h.2=false∧∃ h1:p<f.length,vG (f[p]) h=true):=by
 unfold yC at e
 cases hs:xM h.2 with
 | true =>
  rw [hs,if_pos rfl] at e
  left
  split at e
  ·rename_i a b ha hb
   simp only [Bool.and_eq_true,beq_iff_eq] at e
   obtain ⟨h1,rfl⟩:=List.getElem?_eq_some_iff.1 ha
   obtain ⟨h2,rfl⟩:=List.getElem?_eq_some_iff.1 hb
   refine ⟨rfl,h1,h2,e.1,?_⟩
   unfold vG
   simp [e.2]
  ·cases e
 | false =>
  rw [hs] at e
  right
  simp only [Bool.false_eq_true,if_false] at e
  split at e
  ·rename_i a ha
   obtain ⟨h1,rfl⟩:=List.getElem?_eq_some_iff.1 ha
   refine ⟨rfl,h1,?_⟩
   unfold vG;exact e
  ·cases e
theorem vC {f:List Prt} {hs:List Hl} {p h:Nat} (e:zM f hs p=some h):∃ hh:h<hs.length,yC f p hs[h]=true:=by
 unfold zM at e
 rw [List.findIdx?_eq_some_iff_getElem] at e
 exact ⟨e.1,e.2.1⟩
theorem zR {p:Prt} {h:Hl} (e:vG p h=true):p.1=26∧p.2.2=h.1:=by
 unfold vG at e
 simpa using e
theorem xN.stands {f:List Prt} {hs:List Hl} (H:xN f hs) {p h:Nat} (hh:h<hs.length) (e:yC f p hs[h]=true):zM f hs p=some h:=by
 unfold zM
 rw [List.findIdx?_eq_some_iff_getElem]
 refine ⟨hh,e,fun j hj=>?_⟩
 simp only [Bool.not_eq_true]
 rw [Bool.eq_false_iff]
 intro e2
 rcases yQ e with ⟨a1,a2,a3,a4,a5⟩ | ⟨a1,a2,a5⟩ <;> rcases yQ e2 with ⟨b1,b2,b3,b4,b5⟩ | ⟨b1,b2,b5⟩
 ·have:=H.uniq h j hh (by omega) (by rw [← (zR a5).2,← (zR b5).2]);omega
 ·have:=(zR b5).1;omega
 ·have:=(zR a5).1;omega
 ·have:=H.uniq h j hh (by omega) (by rw [← (zR a5).2,← (zR b5).2]);omega
theorem xN.bare {f:List Prt} {hs:List Hl} (H:xN f hs):MBare f hs:=by
 have hf:=zI H.well
 intro p h hp ho q hpq hq
 obtain ⟨hh,e⟩:=vC ho
 rcases yQ e with ⟨a1,a2,a3,a4,a5⟩ | ⟨a1,a2,a5⟩
 ·have h1:=gI hf hp (H.stmt p hp a4)
  have h2:=jU hf a3 (H.leaf _ a3 (zR a5).1)
  obtain rfl:q=p+1:=by omega
  cases hv:sevOf f hs (p+1) with
  | none=>rfl
  | some j =>
   exfalso
   obtain ⟨hj,e2⟩:=vC (vV f hs hv).2
   rcases yQ e2 with ⟨b1,b2,b3,b4,b5⟩ | ⟨b1,b2,b5⟩
   ·have:=(zR a5).1;omega
   ·have:=H.uniq h j hh hj (by rw [← (zR a5).2,← (zR b5).2])
    subst this
    rw [a1] at b1;cases b1
 ·have h2:=jU hf hp (H.leaf _ hp (zR a5).1)
  omega
theorem xN.top {f:List Prt} {hs:List Hl} (H:xN f hs):sevOf f hs 0=none:=by
 obtain ⟨hf0,hfe⟩:=yD H.well
 cases hv:sevOf f hs 0 with
 | none=>rfl
 | some h =>
  exfalso
  obtain ⟨hsv,ho⟩:=vV f hs hv
  obtain ⟨hh,e⟩:=vC ho
  have hk:hkind hs h=(hs[h]).2:=by unfold hkind;rw [List.getElem?_eq_getElem hh]
  rw [hk] at hsv
  have hf:=zI H.well
  rcases yQ e with ⟨a1,a2,a3,a4,a5⟩ | ⟨a1,a2,a5⟩
  ·have h7:(hs[h]).2=7:=by
    unfold isSev at hsv;unfold xM at a1
    simp at hsv a1;omega
   have h1:=gI hf hf0 (H.stmt 0 hf0 a4)
   have h2:=jU hf a3 (H.leaf _ a3 (zR a5).1)
   have:=H.plc h hh _ a3 a5
   unfold xZ at this
   rw [if_neg (by omega),if_pos h7] at this
   have hu:upN f (0+1)=0:=by unfold upN;rw [upI,if_pos (by omega)];rfl
   rw [hu] at this
   have h0:upN f (0:Int).toNat=-1:=rfl
   rw [h0] at this
   simp [kindI] at this
  ·have h6:(hs[h]).2=6:=by
    unfold isSev at hsv;unfold xM at a1
    simp at hsv a1;omega
   have:=H.plc h hh _ hf0 a5
   unfold xZ at this
   rw [if_neg (by omega),if_neg (by omega),if_pos h6] at this
   have h0:upN f 0=-1:=rfl
   rw [h0] at this
   simp [kindI] at this
def holeP (f:List Prt) (hs:List Hl) (p:Nat):Option Nat :=
 if zX f p=50∧zX f (p+1)=26 then (match hs.findIdx? (fun h=>match f[p+1]? with
   | some b=>decide (b.2.2=h.1)
   | none=>false) with
  | some h=>if xM (hkind hs h) then some h else none
  | none=>none)
 else if zX f p=26 then (match hs.findIdx? (fun h=>match f[p]? with
   | some b=>decide (b.2.2=h.1)
   | none=>false) with
  | some h=>if xM (hkind hs h) then none else some h
  | none=>none)
 else none
theorem xN.prog {f:List Prt} {hs:List Hl} (H:xN f hs) (p:Nat) (hp:p<f.length):holeP f hs p=zM f hs p:=by
 have hf:=zI H.well
 have hka:∀ i (hi:i<f.length),zX f i=(f[i]).1:=fun i hi=>by unfold zX;rw [List.getElem?_eq_getElem hi]
 have hhk:∀ h (hh:h<hs.length),hkind hs h=(hs[h]).2:=fun h hh=>by unfold hkind;rw [List.getElem?_eq_getElem hh]
 have hnone:(∀ h (hh:h<hs.length),¬ yC f p hs[h]=true)→zM f hs p=none:=by
  intro h
  unfold zM
  rw [List.findIdx?_eq_none_iff]
  intro x hx
  obtain ⟨i,hi,rfl⟩:=List.mem_iff_getElem.1 hx
  simpa using h i hi
 unfold holeP
 by_cases h50:zX f p=50∧zX f (p+1)=26
 ·rw [if_pos h50]
  have hp1:p+1<f.length:=by
   by_cases c:p+1<f.length
   ·exact c
   ·exfalso
    have:=h50.2
    unfold zX at this
    rw [List.getElem?_eq_none (by omega)] at this
    cases this
  rw [hka p hp,hka _ hp1] at h50
  rw [List.getElem?_eq_getElem hp1]
  simp only []
  cases hx:hs.findIdx? (fun h=>decide ((f[p+1]).2.2=h.1)) with
  | none =>
   simp only []
   rw [hnone]
   intro h hh e
   rw [List.findIdx?_eq_none_iff] at hx
   rcases yQ e with ⟨_,_,_,_,a5⟩ | ⟨_,_,a5⟩
   ·have:=hx _ (List.getElem_mem hh)
    rw [(zR a5).2] at this;simp at this
   ·have:=(zR a5).1;omega
  | some h =>
   simp only []
   have hx2:=hx
   rw [List.findIdx?_eq_some_iff_getElem] at hx
   obtain ⟨hh,g1,_⟩:=hx
   have g1:(f[p+1]).2.2=(hs[h]).1:=by simpa using g1
   rw [hhk h hh]
   by_cases c:xM (hs[h]).2=true
   ·rw [if_pos c]
    symm
    apply H.stands hh
    unfold yC
    rw [if_pos c,List.getElem?_eq_getElem hp,List.getElem?_eq_getElem hp1]
    simp [h50.1,h50.2,g1]
   ·rw [if_neg c,hnone]
    intro j hj e
    rcases yQ e with ⟨a1,_,_,_,a5⟩ | ⟨_,_,a5⟩
    ·have:=H.uniq h j hh hj (by rw [← g1,(zR a5).2])
     subst this
     exact c a1
    ·have:=(zR a5).1;omega
 ·rw [if_neg h50]
  by_cases h26:zX f p=26
  ·rw [if_pos h26,List.getElem?_eq_getElem hp]
   rw [hka p hp] at h26
   simp only []
   cases hx:hs.findIdx? (fun h=>decide ((f[p]).2.2=h.1)) with
   | none =>
    simp only []
    rw [hnone]
    intro h hh e
    rw [List.findIdx?_eq_none_iff] at hx
    rcases yQ e with ⟨_,_,_,a4,a5⟩ | ⟨_,_,a5⟩
    ·omega
    ·have:=hx _ (List.getElem_mem hh)
     rw [(zR a5).2] at this;simp at this
   | some h =>
    simp only []
    rw [List.findIdx?_eq_some_iff_getElem] at hx
    obtain ⟨hh,g1,_⟩:=hx
    have g1:(f[p]).2.2=(hs[h]).1:=by simpa using g1
    rw [hhk h hh]
    by_cases c:xM (hs[h]).2=true
    ·rw [if_pos c,hnone]
     intro j hj e
     rcases yQ e with ⟨_,_,_,a4,a5⟩ | ⟨a1,_,a5⟩
     ·omega
     ·have:=H.uniq h j hh hj (by rw [← g1,(zR a5).2])
      subst this
      rw [c] at a1;cases a1
    ·rw [if_neg c]
     symm
     apply H.stands hh
     unfold yC
     rw [if_neg c,List.getElem?_eq_getElem hp]
     simp [h26,g1]
  ·rw [if_neg h26,hnone]
   intro h hh e
   rcases yQ e with ⟨_,_,a3,a4,a5⟩ | ⟨_,_,a5⟩
   ·exact h50 ⟨by rw [hka p hp];exact a4,by rw [hka _ a3];exact (zR a5).1⟩
   ·exact h26 (by rw [hka p hp];exact (zR a5).1)
end Go.Proofs.YtfalelkfhandfaaGreatDoor
