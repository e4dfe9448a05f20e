/- Layer 17 in plain Lean: the instance by what is found is the part; an instance is found; where a part stands makes no odds. -/
import Derived.Test.YtfalelkfhandfaaGreatDoorPackMq
import Derived.Test.YtfalelkfhandfaaGreatDoorMatchPMq
import Derived.Test.YtfalelkfhandfaaGreatDoorQuoted3Mq
import Derived.Test.YtfalelkfhandfaaGreatDoorQuotedPMq
import Derived.Test.YtfalelkfhandfaaGreatDoorU8Mq
import Derived.Laws.Strings3
namespace Go.Proofs.YtfalelkfhandfaaGreatDoor
set_option linter.all false

theorem zBt {l:List Prt} {a b:Nat} (h1:a≤b) (h2:b≤l.length):(piece l a b).length=b-a:=by
 unfold piece;rw [List.length_take,List.length_drop];omega
theorem zEf (l:List Prt) (a:Nat):piece l a a=[]:=by unfold piece;rw [Nat.sub_self];rfl
theorem zMv {l:List Prt} {a b:Nat} (h1:a<b) (h2:b≤l.length):piece l a b=l[a]::piece l (a+1) b:=by
 unfold piece
 rw [List.drop_eq_getElem_cons (by omega),show b-a=(b-(a+1))+1 by omega,List.take_succ_cons]
theorem zEg {l:List Prt} {a b:Nat} (h1:a≤b):l.drop a=piece l a b++l.drop b:=by
 unfold piece
 have:=List.take_append_drop (b-a) (l.drop a)
 rw [List.drop_drop,show a+(b-a)=b by omega] at this
 exact this.symm
theorem zGw {l:List Prt} {us:List Nat} (hl:zF l=some us) {P R:List Prt} {vs:List Nat} (hP:zF P=some vs) {i:Nat} (hd:l.drop i=P++R) {x:Nat} (hx:x<P.length):zA l (i+x)=i+zA P x:=by
 obtain ⟨t,ts,h1,h2,h3,h4⟩:=zJc hP hx
 have hd2:l.drop (i+x)=P.drop x++R:=by
  rw [← List.drop_drop,hd,List.drop_append_of_le_length (by omega)]
 obtain ⟨rs,hr⟩:=jW hl (i+P.length)
 have hR:l.drop (i+P.length)=R:=by rw [← List.drop_drop,hd,List.drop_left]
 rw [hR] at hr
 have h5:=gK h1 hr
 rw [← hd2] at h5
 unfold zA
 rw [xX h5,xX h1];omega
theorem zOk {l:List Prt} {us:List Nat} (hl:zF l=some us) {b:Nat} (hb:b≤l.length):∀ (ts:List Nat) (A R:List Prt) (a:Nat),zF A=some ts→l.drop a=A++R→a+A.length≤b→advT l ts.length a b=some (a+A.length)
 | [],A,R,a,hA,hd,hle=>by
  have:=(yO hA).1
  simp at this
  rw [List.length_nil,advT,← this];rfl
 | t::ts,A,R,a,hA,hd,hle=>by
  have hs:=yO hA
  have ht:=hs.2.2 t (by simp)
  have hsum:=hs.1
  rw [List.sum_cons] at hsum
  have hk:=gY 1 hA (by simp)
  simp only [List.take_succ_cons,List.take_zero,List.sum_cons,List.sum_nil,Nat.add_zero,List.drop_succ_cons,List.drop_zero] at hk
  have he:zA l a=a+t:=by
   have:=zGw hl hA (i:=a) (R:=R) hd (x:=0) (by omega)
   rw [Nat.add_zero] at this
   rw [this]
   unfold zA
   rw [List.drop_zero,xX hA];omega
  rw [List.length_cons,advT,if_pos (by omega),he]
  have hd2:l.drop (a+t)=A.drop t++R:=by
   rw [← List.drop_drop,hd,List.drop_append_of_le_length (by omega)]
  rw [zOk hl hb ts (A.drop t) R (a+t) hk hd2 (by rw [List.length_drop];omega),List.length_drop]
  congr 1;omega

section
variable (f:List Prt) (hs:List Hl) (v:Nat→List Prt)
mutual
def iPart:Nat→Nat→List Prt
 | 0,_=>[]
 | n+1,p=>match zM f hs p with
  | some h=>v h
  | none=>match f[p]? with
   | some a=>(a.1,(cntP (iKids n (p+1) (zA f p)):Int),a.2.2)::iKids n (p+1) (zA f p)
   | none=>[]
def iKids:Nat→Nat→Nat→List Prt
 | 0,_,_=>[]
 | n+1,p,pend=>if p=pend then [] else iPart n p++iKids n (zA f p) pend
end
theorem zSw {a b:List Prt} {us ts:List Nat} (h:zF a=some us) (g:zF b=some ts):cntP (a++b)=us.length+ts.length:=by
 unfold cntP;rw [gK h g];simp
theorem jY {a:List Prt} {us:List Nat} (h:zF a=some us):cntP a=us.length:=by unfold cntP;rw [h]
theorem zIj (hv:∀ h,∃ ts,zF (v h)=some ts):∀ n,(∀ p,∃ ts,zF (iPart f hs v n p)=some ts∧(zM f hs p=none→p<f.length→0<n→ts.length=1))∧(∀ p pend,∃ ts,zF (iKids f hs v n p pend)=some ts)
 | 0=>⟨(fun p=>⟨[],by rw [iPart];rfl,fun _ _ h=>by omega⟩),(fun _ _=>⟨[],by rw [iKids];rfl⟩)⟩
 | n+1=>by
  obtain ⟨h1,h2⟩:=zIj hv n
  constructor
  ·intro p
   rw [iPart]
   cases ho:zM f hs p with
   | some h =>
    obtain ⟨ts,ht⟩:=hv h
    exact ⟨ts,ht,fun e=>by cases e⟩
   | none =>
    simp only []
    cases ha:f[p]? with
    | none =>
     refine ⟨[],rfl,fun _ hp=>?_⟩
     rw [List.getElem?_eq_getElem hp] at ha;cases ha
    | some a =>
     simp only []
     obtain ⟨ks,hk⟩:=h2 (p+1) (zA f p)
     rw [jA hk (by simp) (by rw [jY hk];exact Int.le_refl _)]
     exact ⟨_,rfl,fun _ _ _=>by rw [jY hk];simp⟩
  ·intro p pend
   rw [iKids]
   split
   ·exact ⟨[],rfl⟩
   ·obtain ⟨ts,ht,_⟩:=h1 p
    obtain ⟨ks,hk⟩:=h2 (zA f p) pend
    exact ⟨_,gK ht hk⟩
end
section
variable (f l:List Prt) (hs:List Hl)
theorem zAl (p:Nat):(∃ h,oneOf f hs p=some h∧zM f hs p=some h∧sevOf f hs p=none)∨(∃ h,sevOf f hs p=some h∧zM f hs p=some h∧oneOf f hs p=none)∨(oneOf f hs p=none∧zM f hs p=none∧sevOf f hs p=none):=by
 unfold oneOf sevOf
 cases ho:zM f hs p with
 | none=>exact Or.inr (Or.inr ⟨rfl,rfl,rfl⟩)
 | some h =>
  simp only []
  by_cases c:isSev (hkind hs h)=true
  ·rw [if_pos c,if_pos c];exact Or.inr (Or.inl ⟨h,rfl,rfl,rfl⟩)
  ·rw [if_neg c,if_neg c];exact Or.inl ⟨h,rfl,rfl,rfl⟩
theorem zPq {p i:Nat} (h:alikeP f l p i=true):∃ (hp:p<f.length) (hi:i<l.length),(f[p]).1=(l[i]).1∧(f[p]).2.2=(l[i]).2.2:=by
 unfold alikeP at h
 split at h
 ·rename_i a b ha hb
  obtain ⟨h1,rfl⟩:=List.getElem?_eq_some_iff.1 ha
  obtain ⟨h2,rfl⟩:=List.getElem?_eq_some_iff.1 hb
  simp at h
  exact ⟨h1,h2,h⟩
 ·cases h
theorem zMw {us:List Nat} (hl:zF l=some us) {K a b:Nat} (hb:b≤l.length) (h:advT l K a b=some b):a≤b∧cntP (piece l a b)=K:=by
 have:=yZ hl _ _ _ _ hb h
 exact ⟨by omega,zIf hl hb h (Nat.le_refl _)⟩
theorem zSx {us:List Nat} (hl:zF l=some us) (υ:MSt) (v:Nat→List Prt) (hv:∀ (h:Nat) (q:Nat×Nat),υ[h]?=some (some q)→v h=piece l q.1 q.2):∀ n,(∀ p i σ τ,i<l.length→sevOf f hs p=none→τ∈aPart f l hs n p i σ→MExt τ υ→iPart f hs v n p=piece l i (zA l i)) ∧
  (∀ p pend i stop σ τ K,stop≤l.length→advT l K i stop=some stop→τ∈aKids f l hs n p pend i stop σ→MExt τ υ→iKids f hs v n p pend=piece l i stop)
 | 0=>⟨(fun _ _ _ _ _ _ h=>by rw [aPart] at h;cases h),(fun _ _ _ _ _ _ _ _ _ h=>by rw [aKids] at h;cases h)⟩
 | n+1=>by
  obtain ⟨h1,h2⟩:=zSx hl υ v hv n
  constructor
  ·intro p i σ τ hi hsv h he
   rw [aPart] at h
   rw [iPart]
   rcases zAl f hs p with ⟨k,e1,e2,e3⟩ | ⟨k,e1,_⟩ | ⟨e1,e2,e3⟩
   ·rw [e1] at h
    rw [e2]
    simp only [] at h ⊢
    split at h
    ·rw [Option.mem_toList] at h
     obtain ⟨_,q,q1,q2,_⟩:=xP l h
     rw [hv k q (he.2 _ _ q1),q2]
    ·cases h
   ·rw [hsv] at e1;cases e1
   ·rw [e1] at h
    rw [e2]
    simp only [] at h ⊢
    split at h
    ·rename_i ha
     obtain ⟨g1,g2,g3,g4⟩:=zPq f l ha
     obtain ⟨q,k1,k2⟩:=yW hl hi
     have hle:=(zJ hl hi)
     rw [List.getElem?_eq_getElem g1,h2 _ _ _ _ _ _ q hle.2 k2 h he]
     simp only []
     rw [(zMw l hl hle.2 k2).2,zMv hle.1 hle.2,g3,g4,← k1]
    ·cases h
  ·intro p pend i stop σ τ K hst hK h he
   rw [aKids] at h
   rw [iKids]
   split at h
   ·rename_i hp
    rw [if_pos hp]
    split at h
    ·rename_i hi
     rw [hi,zEf]
    ·cases h
   ·rename_i hp
    rw [if_neg hp]
    rcases zAl f hs p with ⟨k,e1,e2,e3⟩ | ⟨k,e3,e2,e1⟩ | ⟨e1,e2,e3⟩
    ·rw [e3] at h
     simp only [] at h
     split at h
     ·rename_i hi
      simp only [List.mem_flatMap] at h
      obtain ⟨υ',g1,g2⟩:=h
      obtain ⟨_,J,_,hJ⟩:=yR hK (show i≠stop by omega)
      have hg:=zJ hl (show i<l.length by omega)
      have hle:=yZ hl _ _ _ _ hst hJ
      rw [h1 _ _ _ _ (by omega) e3 g1 (((fG f l hs n).2 _ _ _ _ _ _ g2).trans he),h2 _ _ _ _ _ _ J hst hJ g2 he,← fR l (by omega) (by omega)]
     ·cases h
    ·rw [e3] at h
     simp only [List.mem_flatMap,Option.mem_toList] at h
     obtain ⟨tx,hto,υ',g1,g2⟩:=h
     obtain ⟨m,hm⟩:=(jX hl hst _ _ K tx hK (by omega)).1 hto
     obtain ⟨r1,r2,r3⟩:=vI hl hst hK hm
     have hle:=yZ hl _ _ _ _ hst hm
     obtain ⟨_,q,q1,q2,_⟩:=xP l g1
     have hn:0<n:=by
      cases n with
      | zero=>rw [aKids] at g2;cases g2
      | succ n=>omega
     have e4:iPart f hs v n p=v k:=by
      obtain ⟨n',rfl⟩:∃ n',n=n'+1:=⟨n-1,by omega⟩
      rw [iPart,e2]
     rw [e4,hv k q (he.2 _ _ (((fG f l hs n).2 _ _ _ _ _ _ g2).2 _ _ q1)),q2,h2 _ _ _ _ _ _ _ hst r3 g2 he,← fR l (by omega) r2]
    ·rw [e3] at h
     simp only [] at h
     split at h
     ·rename_i hi
      simp only [List.mem_flatMap] at h
      obtain ⟨υ',g1,g2⟩:=h
      obtain ⟨_,J,_,hJ⟩:=yR hK (show i≠stop by omega)
      have hg:=zJ hl (show i<l.length by omega)
      have hle:=yZ hl _ _ _ _ hst hJ
      rw [h1 _ _ _ _ (by omega) e3 g1 (((fG f l hs n).2 _ _ _ _ _ _ g2).trans he),h2 _ _ _ _ _ _ J hst hJ g2 he,← fR l (by omega) (by omega)]
     ·cases h
def Con (v:Nat→List Prt) (σ:MSt):Prop:=σ.length=hs.length∧∀ (h:Nat) (q:Nat×Nat),σ[h]?=some (some q)→piece l q.1 q.2=v h
theorem Con.bind {v:Nat→List Prt} {σ:MSt} (hc:Con l hs v σ) {h a b:Nat} (hh:h<hs.length) (e:piece l a b=v h):∃ τ,bindS l σ h a b=some τ∧Con l hs v τ:=by
 have hl:h<σ.length:=by rw [hc.1];exact hh
 unfold bindS
 rw [List.getElem?_eq_getElem hl]
 cases hq:σ[h] with
 | some q =>
  simp only []
  rw [if_pos (by rw [hc.2 h q (by rw [List.getElem?_eq_getElem hl,hq]),e])]
  exact ⟨σ,rfl,hc⟩
 | none =>
  simp only []
  refine ⟨_,rfl,by rw [List.length_set];exact hc.1,fun k q hk=>?_⟩
  by_cases c:h=k
  ·subst c
   rw [List.getElem?_set_self hl] at hk
   cases hk;exact e
  ·rw [List.getElem?_set_ne c] at hk;exact hc.2 k q hk
theorem zDf {p h:Nat} (e:zM f hs p=some h):h<hs.length:=(vC e).1
end
def shift (d:Nat) (σ:MSt):MSt:=σ.map fun o=>o.map fun q=>(q.1+d,q.2+d)
theorem zPr (d:Nat) (σ:MSt) (h:Nat):(shift d σ)[h]?=σ[h]?.map fun o=>o.map fun q=>(q.1+d,q.2+d):=by unfold shift;rw [List.getElem?_map]
structure Sits (P l:List Prt) (d:Nat):Prop where
 rP:∃ us,zF P=some us
 rL:∃ us,zF l=some us
 dr:∃ R,l.drop d=P++R
theorem Sits.len {P l:List Prt} {d:Nat} (h:Sits P l d):d+P.length≤l.length∨P=[]:=by
 obtain ⟨R,hR⟩:=h.dr
 have:=congrArg List.length hR
 rw [List.length_drop,List.length_append] at this
 rcases Nat.eq_zero_or_pos P.length with e | e
 ·exact Or.inr (List.length_eq_zero_iff.1 e)
 ·left;omega
theorem Sits.end_ {P l:List Prt} {d:Nat} (h:Sits P l d) {x:Nat} (hx:x<P.length):zA l (x+d)=zA P x+d:=by
 obtain ⟨us,hl⟩:=h.rL
 obtain ⟨vs,hP⟩:=h.rP
 obtain ⟨R,hR⟩:=h.dr
 have:=zGw hl hP hR hx
 rw [show x+d=d+x by omega,this];omega
theorem Sits.get {P l:List Prt} {d:Nat} (h:Sits P l d) {x:Nat} (hx:x<P.length):l[x+d]?=P[x]?:=by
 obtain ⟨R,hR⟩:=h.dr
 have:(l.drop d)[x]?=P[x]?:=by rw [hR,List.getElem?_append_left hx]
 rw [List.getElem?_drop] at this
 rw [show x+d=d+x by omega];exact this
theorem Sits.pc {P l:List Prt} {d:Nat} (h:Sits P l d) {a b:Nat} (hb:b≤P.length):piece l (a+d) (b+d)=piece P a b:=by
 obtain ⟨R,hR⟩:=h.dr
 unfold piece
 rw [show b+d-(a+d)=b-a by omega,show a+d=d+a by omega,← List.drop_drop,hR]
 by_cases c:a≤P.length
 ·rw [List.drop_append_of_le_length c,List.take_append_of_le_length (by rw [List.length_drop];omega)]
 ·rw [show b-a=0 by omega,List.take_zero,List.take_zero]
theorem Sits.bind {P l:List Prt} {d:Nat} (hS:Sits P l d) {σ:MSt} (hσ:∀ (h:Nat) (q:Nat×Nat),σ[h]?=some (some q)→q.2≤P.length) {h a b:Nat} (hb:b≤P.length):bindS l (shift d σ) h (a+d) (b+d)=(bindS P σ h a b).map (shift d):=by
 unfold bindS
 rw [zPr]
 cases hq:σ[h]? with
 | none=>rfl
 | some o =>
  cases o with
  | none =>
   simp only [Option.map_some,Option.map_none,Option.some.injEq]
   unfold shift
   rw [List.map_set];rfl
  | some q =>
   simp only [Option.map_some]
   rw [hS.pc hb,hS.pc (hσ h q hq)]
   split <;> rfl
theorem zKl {l:List Prt} {us:List Nat} (hl:zF l=some us) {stop:Nat} (hs:stop≤l.length):∀ (m m' a K:Nat),advT l K a stop=some stop→stop-a<m→stop-a<m'→tosL l m a stop=tosL l m' a stop
 | 0,m',a,K,_,h,_=>by omega
 | m+1,0,a,K,_,_,h=>by omega
 | m+1,m'+1,a,K,hK,h1,h2=>by
  rw [tosL,tosL]
  congr 1
  split
  ·rfl
  ·rename_i hne
   obtain ⟨hlt,J,rfl,hJ⟩:=yR hK hne
   have:=(zJ hl (show a<l.length by omega)).1
   exact zKl hl hs m m' _ J hJ (by omega) (by omega)
theorem Sits.tos {P l:List Prt} {d:Nat} (hS:Sits P l d) {stop:Nat} (hs:stop≤P.length):∀ (m a K:Nat),advT P K a stop=some stop→tosL l m (a+d) (stop+d)=(tosL P m a stop).map (·+d)
 | 0,a,K,_=>by rw [tosL,tosL];rfl
 | m+1,a,K,hK=>by
  rw [tosL,tosL,List.map_cons]
  congr 1
  by_cases c:a=stop
  ·rw [if_pos c,if_pos (by omega)];rfl
  ·rw [if_neg c,if_neg (by omega)]
   obtain ⟨hlt,J,rfl,hJ⟩:=yR hK c
   rw [hS.end_ (by omega)]
   exact hS.tos hs m _ J hJ
section
variable (f:List Prt) (hs:List Hl)
def In (P:List Prt) (σ:MSt):Prop:=∀ (h:Nat) (q:Nat×Nat),σ[h]?=some (some q)→q.2≤P.length
theorem In.bind {P:List Prt} {σ τ:MSt} (hi:In P σ) {h a b:Nat} (hb:b≤P.length) (e:bindS P σ h a b=some τ):In P τ:=by
 intro k q hq
 by_cases c:k=h
 ·subst c
  obtain ⟨_,q',q1,_,q3 | ⟨_,rfl,_⟩⟩:=xP P e
  ·rw [hq] at q1;cases q1;exact hi k q q3
  ·rw [hq] at q1;cases q1;exact hb
 ·rw [gH P e c] at hq;exact hi k q hq
theorem a_in {P:List Prt} {us:List Nat} (hl:zF P=some us):∀ n,(∀ p i σ τ,i<P.length→In P σ→τ∈aPart f P hs n p i σ→In P τ) ∧
  (∀ p pend i stop σ τ K,stop≤P.length→advT P K i stop=some stop→In P σ→τ∈aKids f P hs n p pend i stop σ→In P τ)
 | 0=>⟨(fun _ _ _ _ _ _ h=>by rw [aPart] at h;cases h),(fun _ _ _ _ _ _ _ _ _ _ h=>by rw [aKids] at h;cases h)⟩
 | n+1=>by
  obtain ⟨h1,h2⟩:=a_in hl n
  constructor
  ·intro p i σ τ hi hin h
   have hg:=zJ hl hi
   rw [aPart] at h
   cases ho:oneOf f hs p with
   | some j =>
    rw [ho] at h
    simp only [] at h
    split at h
    ·rw [Option.mem_toList] at h;exact hin.bind hg.2 h
    ·cases h
   | none =>
    rw [ho] at h
    simp only [] at h
    split at h
    ·obtain ⟨q,_,hq⟩:=yW hl hi
     exact h2 _ _ _ _ _ _ q hg.2 hq hin h
    ·cases h
  ·intro p pend i stop σ τ K hst hK hin h
   rw [aKids] at h
   split at h
   ·split at h
    ·simp at h;subst h;exact hin
    ·cases h
   ·cases ho:sevOf f hs p with
    | some k =>
     rw [ho] at h
     simp only [List.mem_flatMap,Option.mem_toList] at h
     obtain ⟨tx,hto,υ,g1,g2⟩:=h
     obtain ⟨m,hm⟩:=(jX hl hst _ _ K tx hK (by omega)).1 hto
     obtain ⟨r1,r2,r3⟩:=vI hl hst hK hm
     exact h2 _ _ _ _ _ _ _ hst r3 (hin.bind (by omega) g1) g2
    | none =>
     rw [ho] at h
     simp only [] at h
     split at h
     ·simp only [List.mem_flatMap] at h
      obtain ⟨υ,g1,g2⟩:=h
      obtain ⟨_,J,_,hJ⟩:=yR hK (show i≠stop by omega)
      exact h2 _ _ _ _ _ _ J hst hJ (h1 _ _ _ _ (by omega) hin g1) g2
     ·cases h
theorem zCy {β:Type} (o:Option MSt) (g:MSt→MSt) (F:MSt→List β):(o.map g).toList.flatMap F=o.toList.flatMap fun x=>F (g x):=by cases o <;> rfl
theorem fI {α:Type} (g:MSt→MSt) (F:α→List MSt) (G:α→List MSt):∀ xs:List α,(∀ x∈xs,F x=(G x).map g)→xs.flatMap F=(xs.flatMap G).map g
 | [],_=>rfl
 | x::xs,h=>by
  rw [List.flatMap_cons,List.flatMap_cons,List.map_append,h x (by simp),fI g F G xs (fun y hy=>h y (by simp [hy]))]
theorem zOl {P l:List Prt} {d:Nat} (hS:Sits P l d):∀ n,(∀ p i σ,i<P.length→In P σ→aPart f l hs n p (i+d) (shift d σ)=(aPart f P hs n p i σ).map (shift d)) ∧
  (∀ p pend i stop σ K,stop≤P.length→advT P K i stop=some stop→In P σ→aKids f l hs n p pend (i+d) (stop+d) (shift d σ)=(aKids f P hs n p pend i stop σ).map (shift d))
 | 0=>⟨(fun _ _ _ _ _=>by rw [aPart,aPart];rfl),(fun _ _ _ _ _ _ _ _ _=>by rw [aKids,aKids];rfl)⟩
 | n+1=>by
  obtain ⟨h1,h2⟩:=zOl hS n
  obtain ⟨vs,hP⟩:=hS.rP
  obtain ⟨us,hl⟩:=hS.rL
  constructor
  ·intro p i σ hi hin
   have hg:=zJ hP hi
   rw [aPart,aPart]
   have hk:zX l (i+d)=zX P i:=by unfold zX;rw [hS.get hi]
   cases ho:oneOf f hs p with
   | some j =>
    simp only []
    rw [hk]
    split
    ·rw [hS.end_ hi,hS.bind hin hg.2]
     cases bindS P σ j i (zA P i) <;> rfl
    ·rfl
   | none =>
    simp only []
    have ha:alikeP f l p (i+d)=alikeP f P p i:=by unfold alikeP;rw [hS.get hi]
    rw [ha]
    split
    ·obtain ⟨q,_,hq⟩:=yW hP hi
     rw [hS.end_ hi,show i+d+1=i+1+d by omega]
     exact h2 _ _ _ _ _ q hg.2 hq hin
    ·rfl
  ·intro p pend i stop σ K hst hK hin
   rw [aKids,aKids]
   by_cases hp:p=pend
   ·rw [if_pos hp,if_pos hp]
    by_cases c:i=stop
    ·rw [if_pos c,if_pos (by omega)];rfl
    ·rw [if_neg c,if_neg (by omega)];rfl
   ·rw [if_neg hp,if_neg hp]
    cases ho:sevOf f hs p with
    | some k =>
     simp only []
     have hlen:=hS.len
     have hle:=yZ hP _ _ _ _ hst hK
     have ht1:tosL l (l.length+1) (i+d) (stop+d)=(tosL P (P.length+1) i stop).map (·+d):=by
      rcases hlen with hlen | hlen
      ·rw [hS.tos hst _ _ K hK]
       congr 1
       exact zKl hP hst _ _ _ K hK (by omega) (by omega)
      ·subst hlen
       simp at hst
       subst hst
       obtain rfl:i=0:=by omega
       rw [tosL,tosL];simp
     rw [ht1,List.flatMap_map]
     refine fI _ _ _ _ fun tx hto=>?_
     obtain ⟨m,hm⟩:=(jX hP hst _ _ K tx hK (by omega)).1 hto
     obtain ⟨r1,r2,r3⟩:=vI hP hst hK hm
     rw [hS.bind hin (by omega),zCy]
     cases hb:bindS P σ k i tx with
     | none=>rfl
     | some υ =>
      simp only [Option.toList_some,List.flatMap_cons,List.flatMap_nil,List.append_nil]
      exact h2 _ _ _ _ _ _ hst r3 (hin.bind (by omega) hb)
    | none =>
     simp only []
     by_cases c:i<stop
     ·rw [if_pos c,if_pos (by omega),h1 _ _ _ (by omega) hin,List.flatMap_map,hS.end_ (by omega)]
      obtain ⟨_,J,_,hJ⟩:=yR hK (show i≠stop by omega)
      refine fI _ _ _ _ fun υ hυ=>?_
      exact h2 _ _ _ _ _ J hst hJ ((a_in f hs hP n).1 _ _ _ _ (by omega) hin hυ)
     ·rw [if_neg c,if_neg (by omega)];rfl
end
theorem xN.bare2 {f:List Prt} {hs:List Hl} (H:xN f hs) {p h:Nat} (hp:p<f.length) (ho:zM f hs p=some h) {q:Nat} (hpq:p<q) (hq:q<zA f p):zM f hs q=none:=by
 have hf:=zI H.well
 obtain ⟨hh,e⟩:=vC ho
 rcases yQ e with ⟨a1,a2,a3,a4,a5⟩ | ⟨a1,a2,a5⟩
 ·have h1:=gI hf hp (H.stmt p hp a4)
  have h2:=jU hf a3 (H.leaf _ a3 (zR a5).1)
  obtain rfl:q=p+1:=by omega
  cases hv:zM f hs (p+1) with
  | none=>rfl
  | some j =>
   exfalso
   obtain ⟨hj,e2⟩:=vC hv
   rcases yQ e2 with ⟨b1,b2,b3,b4,b5⟩ | ⟨b1,b2,b5⟩
   ·have:=(zR a5).1;omega
   ·have:=H.uniq h j hh hj (by rw [← (zR a5).2,← (zR b5).2])
    subst this
    rw [a1] at b1;cases b1
 ·have h2:=jU hf hp (H.leaf _ hp (zR a5).1)
  omega
section
variable (f l:List Prt) (hs:List Hl)
theorem zWh (H:xN f hs):∀ n,(∀ p i σ τ,p<f.length→sevOf f hs p=none→τ∈aPart f l hs n p i σ→∀ q h,p≤q→q<zA f p→zM f hs q=some h→MBnd τ h) ∧
  (∀ p pend i stop σ τ K,pend≤f.length→advT f K p pend=some pend→τ∈aKids f l hs n p pend i stop σ→∀ q h,p≤q→q<pend→zM f hs q=some h→MBnd τ h)
 | 0=>⟨(fun _ _ _ _ _ _ h=>by rw [aPart] at h;cases h),(fun _ _ _ _ _ _ _ _ _ h=>by rw [aKids] at h;cases h)⟩
 | n+1=>by
  obtain ⟨h1,h2⟩:=zWh H n
  have hf:=zI H.well
  constructor
  ·intro p i σ τ hp hsv h q k hpq hq hk
   rw [aPart] at h
   rcases zAl f hs p with ⟨j,e1,e2,e3⟩ | ⟨j,e1,_⟩ | ⟨e1,e2,e3⟩
   ·rw [e1] at h
    simp only [] at h
    split at h
    ·rw [Option.mem_toList] at h
     rcases Nat.lt_or_ge p q with c | c
     ·rw [H.bare2 hp e2 c hq] at hk;cases hk
     ·obtain rfl:p=q:=by omega
      rw [e2] at hk;cases hk
      obtain ⟨_,x,q1,_⟩:=xP l h
      exact ⟨x,q1⟩
    ·cases h
   ·rw [hsv] at e1;cases e1
   ·rw [e1] at h
    simp only [] at h
    split at h
    ·rcases Nat.lt_or_ge p q with c | c
     ·obtain ⟨x,_,hx⟩:=yW hf hp
      exact h2 _ _ _ _ _ _ x (zJ hf hp).2 hx h q k (by omega) hq hk
     ·obtain rfl:p=q:=by omega
      rw [e2] at hk;cases hk
    ·cases h
  ·intro p pend i stop σ τ K hpe hK h q k hpq hq hk
   rw [aKids] at h
   split at h
   ·omega
   ·rename_i hp
    obtain ⟨hlt,J,_,hJ⟩:=yR hK hp
    have hle:=yZ hf _ _ _ _ hpe hJ
    have hg:=zJ hf (show p<f.length by omega)
    cases ho:sevOf f hs p with
    | some j =>
     rw [ho] at h
     simp only [List.mem_flatMap,Option.mem_toList] at h
     obtain ⟨tx,hto,υ,g1,g2⟩:=h
     rcases Nat.lt_or_ge q (zA f p) with c | c
     ·rcases Nat.lt_or_ge p q with c2 | c2
      ·rw [H.bare2 (by omega) (vV f hs ho).2 c2 c] at hk;cases hk
      ·obtain rfl:p=q:=by omega
       rw [(vV f hs ho).2] at hk;cases hk
       obtain ⟨_,x,q1,_⟩:=xP l g1
       exact MBnd.ext ⟨x,q1⟩ ((fG f l hs n).2 _ _ _ _ _ _ g2)
     ·exact h2 _ _ _ _ _ _ J hpe hJ g2 q k c hq hk
    | none =>
     rw [ho] at h
     simp only [] at h
     split at h
     ·simp only [List.mem_flatMap] at h
      obtain ⟨υ,g1,g2⟩:=h
      rcases Nat.lt_or_ge q (zA f p) with c | c
      ·exact (h1 _ _ _ _ (by omega) ho g1 q k hpq c hk).ext ((fG f l hs n).2 _ _ _ _ _ _ g2)
      ·exact h2 _ _ _ _ _ _ J hpe hJ g2 q k c hq hk
     ·cases h
def Good1 (lo hi:Nat) (h:Nat) (q:Nat×Nat):Prop:=lo≤q.1∧q.1≤q.2∧q.2≤hi∧(∃ K,advT l K q.1 q.2=some q.2)∧(isSev (hkind hs h)=false→q.1<l.length∧zA l q.1=q.2∧mayB (hkind hs h) (zX l q.1)=true)
theorem Good1.wide {lo hi lo' hi' h:Nat} {q:Nat×Nat} (g:Good1 l hs lo hi h q) (h1:lo'≤lo) (h2:hi≤hi'):Good1 l hs lo' hi' h q:=⟨Nat.le_trans h1 g.1,g.2.1,Nat.le_trans g.2.2.1 h2,g.2.2.2⟩
theorem zSy {us:List Nat} (hl:zF l=some us):∀ n,(∀ p i σ τ,i<l.length→sevOf f hs p=none→τ∈aPart f l hs n p i σ→∀ (h:Nat) (q:Nat×Nat),τ[h]?=some (some q)→σ[h]?=some (some q)∨Good1 l hs i (zA l i) h q) ∧
  (∀ p pend i stop σ τ K,stop≤l.length→advT l K i stop=some stop→τ∈aKids f l hs n p pend i stop σ→∀ (h:Nat) (q:Nat×Nat),τ[h]?=some (some q)→σ[h]?=some (some q)∨Good1 l hs i stop h q)
 | 0=>⟨(fun _ _ _ _ _ _ h=>by rw [aPart] at h;cases h),(fun _ _ _ _ _ _ _ _ _ h=>by rw [aKids] at h;cases h)⟩
 | n+1=>by
  obtain ⟨h1,h2⟩:=zSy hl n
  constructor
  ·intro p i σ τ hi hsv h k q hq
   have hg:=zJ hl hi
   rw [aPart] at h
   cases ho:oneOf f hs p with
   | some j =>
    rw [ho] at h
    simp only [] at h
    split at h
    ·rename_i hmay
     rw [Option.mem_toList] at h
     by_cases hne:k=j
     ·subst hne
      obtain ⟨_,q',q1,_,q3 | ⟨_,q3,_⟩⟩:=xP l h
      ·rw [hq] at q1;cases q1;exact Or.inl q3
      ·rw [hq] at q1;cases q1
       right
       subst q3
       exact ⟨Nat.le_refl _,by show i≤zA l i;omega,Nat.le_refl _,⟨1,by rw [advT,if_pos hg.1,advT]⟩,fun _=>⟨hi,rfl,hmay⟩⟩
     ·rw [gH l h hne] at hq;exact Or.inl hq
    ·cases h
   | none =>
    rw [ho] at h
    simp only [] at h
    split at h
    ·obtain ⟨b,hbk,hb⟩:=yW hl hi
     rcases h2 _ _ _ _ _ _ b hg.2 hb h k q hq with g | g
     ·exact Or.inl g
     ·exact Or.inr (g.wide l hs (by omega) (by omega))
    ·cases h
  ·intro p pend i stop σ τ M hst hM h k q hq
   rw [aKids] at h
   split at h
   ·split at h
    ·simp at h;subst h;exact Or.inl hq
    ·cases h
   ·cases ho:sevOf f hs p with
    | some j =>
     rw [ho] at h
     simp only [List.mem_flatMap,Option.mem_toList] at h
     obtain ⟨tx,hto,υ,g1,g2⟩:=h
     obtain ⟨m,hm2⟩:=(jX hl hst _ _ M tx hM (by omega)).1 hto
     obtain ⟨r1,r2,r3⟩:=vI hl hst hM hm2
     have hle:=yZ hl _ _ _ _ hst hm2
     rcases h2 _ _ _ _ _ _ (M-m) hst r3 g2 k q hq with g3 | g3
     ·by_cases hne:k=j
      ·subst hne
       obtain ⟨_,q',q1,_,q3 | ⟨_,q3,_⟩⟩:=xP l g1
       ·rw [g3] at q1;cases q1;exact Or.inl q3
       ·rw [g3] at q1;cases q1
        right
        subst q3
        refine ⟨Nat.le_refl _,by show i≤tx;omega,r2,⟨m,zEe hl _ _ _ _ hst hm2 r2⟩,fun e=>?_⟩
        rw [(vV f hs ho).1] at e;cases e
      ·rw [gH l g1 hne] at g3;exact Or.inl g3
     ·exact Or.inr (g3.wide l hs (by omega) (Nat.le_refl _))
    | none =>
     rw [ho] at h
     simp only [] at h
     split at h
     ·rename_i hi
      simp only [List.mem_flatMap] at h
      obtain ⟨υ,g1,g2⟩:=h
      obtain ⟨_,M',e,hM'⟩:=yR hM (show i≠stop by omega)
      have hg:=zJ hl (show i<l.length by omega)
      have hle:=yZ hl _ _ _ _ hst hM'
      rcases h2 _ _ _ _ _ _ M' hst hM' g2 k q hq with g3 | g3
      ·rcases h1 _ _ _ _ (by omega) ho g1 k q g3 with g4 | g4
       ·exact Or.inl g4
       ·exact Or.inr (g4.wide l hs (Nat.le_refl _) (by omega))
      ·exact Or.inr (g3.wide l hs (by omega) (Nat.le_refl _))
     ·cases h
theorem zIk {i:Nat}:∀ {k u:Nat},upI l i k=(u:Int)→u<k∧i<zA l u∧∀ j,u<j→j<k→zA l j≤i
 | 0,u,h=>by rw [upI] at h;omega
 | k+1,u,h=>by
  rw [upI] at h
  split at h
  ·rename_i hc
   obtain rfl:k=u:=by omega
   exact ⟨by omega,hc,fun j h1 h2=>by omega⟩
  ·rename_i hc
   obtain ⟨h1,h2,h3⟩:=zIk h
   refine ⟨by omega,h2,fun j g1 g2=>?_⟩
   by_cases e:j=k
   ·subst e;omega
   ·exact h3 j g1 (by omega)
theorem xN.place_at {f:List Prt} {hs:List Hl} (H:xN f hs) {h:Nat} (hh:h<hs.length) {p:Nat} (hp:p<f.length) (hpl:vG f[p] hs[h]=true):∃ q,q<f.length∧zM f hs q=some h:=by
 have hpo:=H.plc h hh p hp hpl
 by_cases c:xM (hs[h]).2=true
 ·have hu:kindI f (upN f p)=some 50:=by
   unfold xZ at hpo
   unfold xM at c
   simp at c
   rcases c with c | c
   ·rw [if_pos c] at hpo;simpa using hpo
   ·rw [if_neg (by omega),if_pos c] at hpo
    simp at hpo;exact hpo.1
  unfold kindI at hu
  split at hu
  ·cases hu
  ·rename_i hneg
   obtain ⟨u,hue⟩:∃ u:Nat,upN f p=(u:Int):=⟨(upN f p).toNat,by omega⟩
   rw [hue] at hu
   simp only [Int.toNat_natCast,Option.map_eq_some_iff] at hu
   obtain ⟨a,ha,hk⟩:=hu
   obtain ⟨h1,rfl⟩:=List.getElem?_eq_some_iff.1 ha
   have hf:=zI H.well
   obtain ⟨g1,g2,g3⟩:=zIk f hue
   obtain ⟨k1,k2⟩:=gI hf h1 (H.stmt u h1 hk)
   have hpu:p=u+1:=by
    rcases Nat.lt_or_ge (u+1) p with c3 | c3
    ·have:=g3 (u+1) (by omega) c3;omega
    ·omega
   subst hpu
   refine ⟨u,h1,H.stands hh ?_⟩
   unfold yC
   have:=zR hpl
   rw [if_pos c,List.getElem?_eq_getElem h1,List.getElem?_eq_getElem k1]
   simp [hk,this.1,this.2]
 ·refine ⟨p,hp,H.stands hh ?_⟩
  unfold yC
  have:=zR hpl
  rw [if_neg c,List.getElem?_eq_getElem hp]
  simp [this.1,this.2]
end
end Go.Proofs.YtfalelkfhandfaaGreatDoor
namespace Go.Proofs.YtfalelkfhandfaaGreatDoor
set_option maxRecDepth 100000
set_option maxHeartbeats 32000000
set_option linter.all false
open Go.RowKit
attribute [local irreducible] wpStill

def MaxC (w:World):Prop:=∃ m,w.cell? ⟨2,0,none⟩=some (.int .i64 m)∧2<w.heap.size
theorem MaxC.below {w w':World} (h:MaxC w) (hb:Below w.heap.size w w'):MaxC w':=by
 obtain ⟨m,hm,hlt⟩:=h
 exact ⟨m,by rw [hb.cell (p:=⟨2,0,none⟩) hlt];exact hm,Nat.lt_of_lt_of_le hlt hb.size⟩
theorem zNg:∀ c,c<256→(decide (Lib.indexByte [39,34,96] (UInt8.ofNat c)<0))=!isMark c:=by decide +kernel
theorem RS.fresh (w:World) (hT:Tabs w) (s:ByteArray) (i:Int):RS (w.alloc (.cells #[.string s,.int .i64 i,.int .u8 0,.slice none 0 0,.bool false] 191 (0,0))) w.heap.size s i 0 [] false:=by
 refine ⟨hT.below ((Below.refl _ _).alloc (Nat.le_refl _) _),hT.2.1,hT.2.2,.slice none 0 0,?_,?_⟩
 ·show (w.heap.push _)[w.heap.size]?=_
  rw [Array.getElem?_push_size]
 ·exact ⟨rfl,Or.inl ⟨rfl,rfl⟩⟩
theorem xW {fn:Func} {t u v x:Tmp} (h:fn.results=#[.tmp t,.tmp u,.tmp v,.tmp x]) (tmps:Array Value) (P:Program) (w:World) :
  (results fn tmps).run P w=.ok (.tuple #[tmps.getD t undef,tmps.getD u undef,tmps.getD v undef,tmps.getD x undef]) w:=by
 simp [results,h]
def begunVals (q:Int×Int×ByteArray×Int):Value:=.tuple #[.int .u8 q.1,.int .i64 q.2.1,.string q.2.2.1,.int .i64 q.2.2.2]
theorem zHh {s:ByteArray} {at':Int} (h:at'<0∨(s.size:Int)≤at'):begun s at'=(0,0,ByteArray.empty,15):=by unfold begun;rw [if_pos h]
theorem zTm {s:ByteArray} {i:Nat} (hm:isMark (bt s i)=false):begun s i=(0,0,ByteArray.empty,15):=by
 unfold begun
 split
 ·rfl
 ·rw [Int.toNat_natCast,hm];rfl
theorem zQj {s:ByteArray} {i:Nat} (hi:i<s.size) (hm:bt s i=96):begun s i=match raw s (i+1) with
  | none=>(0,0,ByteArray.empty,4)
  | some (e,l)=>(7,e,strOfNums l,0):=by
 unfold begun
 rw [if_neg (by omega),Int.toNat_natCast,hm,if_pos (by decide)]
 unfold begunAt
 rw [hm,if_pos rfl]
 cases raw s (i+1) <;> rfl
theorem zNh {s:ByteArray} {i:Nat} (hi:i<s.size) (hm:bt s i=34∨bt s i=39):begun s i=match vK s (bt s i) (i+1) 0 with
  | none=>(0,0,ByteArray.empty,4)
  | some (e,l)=>(if bt s i=34 then 7 else 6,e,strOfNums l,0):=by
 have hM:isMark (bt s i)=true:=by rcases hm with h | h <;> rw [h] <;> decide
 unfold begun
 rw [if_neg (by omega),Int.toNat_natCast,hM,if_pos rfl]
 unfold begunAt vK
 rcases hm with h | h
 ·rw [h];simp;cases body s (i+1) <;> rfl
 ·rw [h];simp;cases single s (i+1) <;> rfl
@[irreducible] def begunPost (s:ByteArray) (at':Int) (w0:World) (e:Ending) (w':World):Prop :=
 e=.returned (begunVals (begun s at'))∧Below w0.heap.size w0 w'
theorem zIt (s:ByteArray) (at':Int) (w0:World) (hT:Tabs w0) (hM:MaxC w0) (hs:s.size≤2147483647) :
  Calls Tryz.prog 121 #[.string s,.int .i64 at'] w0 (begunPost s at' w0):=by
 have HQ:Hid (∀ k e v err w',Below w0.heap.size w0 w'→begun s at'=(k,e,v,err)→begunPost s at' w0 (.returned (.tuple #[.int .u8 k,.int .i64 e,.string v,.int .i64 err])) w') :=
  Hd fun k e v err w' h1 h2=>by unfold begunPost;rw [h2];exact ⟨rfl,h1⟩
 generalize begunPost s at' w0=Q at *
 by_cases h0:at'<0
 ·have hz:=zHh (s:=s) (Or.inl h0)
  have HZ:=Hd hz
  clear hz
  go_enter Tryz.func121,Tryz.ntmps121
  go_wp2_with fail
  refine bodyPost_ret (xW rfl _ _ _) rfl ?_
  exact HQ.out _ _ _ _ _ (Below.refl _ _) HZ.out
 ·by_cases h1:(s.size:Int)≤at'
  ·have hz:=zHh (s:=s) (Or.inr h1)
   have HZ:=Hd hz
   clear hz
   go_enter Tryz.func121,Tryz.ntmps121
   go_wp2_with fail
   refine bodyPost_ret (xW rfl _ _ _) rfl ?_
   exact HQ.out _ _ _ _ _ (Below.refl _ _) HZ.out
  ·obtain ⟨i,rfl⟩:∃ i:Nat,at'=i:=⟨at'.toNat,(Int.toNat_of_nonneg (by omega)).symm⟩
   have hi:i<s.size:=by omega
   have hi':(i:Int)<s.size:=by omega
   have hi0:(0:Int)≤i:=by omega
   have hbt:=vT s i hi
   have hbl:=xY s i
   have CI':∀ w,Calls Tryz.prog 135 #[.string ⟨#[39,34,96]⟩,.int .u8 (bt s i:Int)] w fun e w'=>e=.returned (.int .i64 (Lib.indexByte [39,34,96] (UInt8.ofNat (bt s i))))∧w=w':=fun w=>(Tryz.strings_IndexByte ⟨#[39,34,96]⟩ (bt s i:Int) w).mono fun e w' h=>by
    refine ⟨?_,h.2.symm⟩
    rw [h.1];simp
   have CI:=Hd CI'
   clear CI'
   have hmi:=zNg (bt s i) hbl
   by_cases hmk:isMark (bt s i)=true
   ·have hlt:¬ Lib.indexByte [39,34,96] (UInt8.ofNat (bt s i))<0:=by rw [hmk] at hmi;simpa using hmi
    generalize Lib.indexByte [39,34,96] (UInt8.ofNat (bt s i))=x at *
    by_cases h96:bt s i=96
    ·have HZ:=Hd (zQj hi h96)
     have h96':(bt s i:Int)=96:=by omega
     rw [h96'] at CI
     obtain ⟨m,hm,_⟩:=hM
     have hslA:∀ w,(Instr.slice 9 (.string s) (some (.int .i64 ((i:Int)+1))) none none).run Tryz.prog w=.ok (.string (s.extract (i+1) s.size)) w:=fun w=>by
      rw [run_slice_string_from_if w _ s _ _ Tryz.underlying9,if_pos (by omega)]
      rfl
     have hw1:IntKind.i64.wrap ((i:Int)+1)=(i:Int)+1:=wI (by omega)
     have hi1:(i:Int)+1≤s.size:=by omega
     have hi2:(0:Int)≤(i:Int)+1:=by omega
     have hge:=Lib.indexByte_ge (s.extract (i+1) s.size).data.toList 96
     have hlt2:=zCq 96 (s.extract (i+1) s.size).data.toList
     rw [← xD,ByteArray.size_extract] at hlt2
     have hz:=zTp s (i+1)
     have CJ':∀ w,Calls Tryz.prog 135 #[.string (s.extract (i+1) s.size),.int .u8 96] w fun e w'=>e=.returned (.int .i64 (Lib.indexByte (s.extract (i+1) s.size).data.toList 96))∧w=w':=fun w=>(Tryz.strings_IndexByte (s.extract (i+1) s.size) 96 w).mono fun e w' h=>⟨h.1,h.2.symm⟩
     have CJ:=Hd CJ'
     clear CJ'
     generalize Lib.indexByte (s.extract (i+1) s.size).data.toList 96=y at *
     have HZZ:=Hd hz
     clear hz
     by_cases hy:y<0
     ·have HZ2:Hid (begun s i=(0,0,ByteArray.empty,4)):=Hd (by rw [HZ.out,HZZ.out,if_pos hy])
      clear HZ HZZ
      generalize bt s i=c at *
      go_enter Tryz.func121,Tryz.ntmps121
      go_wp2_with fail
      refine (CI.out _).mono ?_;rintro e w' ⟨rfl,rfl⟩
      go_wp2_with fail
      refine (CJ.out _).mono ?_;rintro e w' ⟨rfl,rfl⟩
      go_wp2_with fail
      refine bodyPost_ret (xW rfl _ _ _) rfl ?_
      exact HQ.out _ _ _ _ _ (Below.refl _ _) HZ2.out
     ·obtain ⟨n,rfl⟩:∃ n:Nat,y=n:=⟨y.toNat,(Int.toNat_of_nonneg (by omega)).symm⟩
      have hn:i+1+n≤s.size:=by omega
      rw [if_neg hy,Int.toNat_natCast] at HZZ
      have hsz:(s.extract (i+1) (i+1+n)).size=n:=by simp;omega
      have CR:=Hd (Tryz.strings_ReplaceAll (s.extract (i+1) (i+1+n)) ⟨#[13]⟩ ⟨#[]⟩ m w0 (by rw [hsz];omega) hm (by decide) (by
       rw [hsz]
       have e0:(⟨#[]⟩:ByteArray).size=0:=rfl
       rw [e0,Nat.mul_zero];omega))
      have HZ2:Hid (begun s i=(7,(i:Int)+n+2,⟨(Lib.replaceAll (s.extract (i+1) (i+1+n)).data.toList [13] []).toArray⟩,0)):=Hd (by
       rw [HZ.out,HZZ.out]
       simp only [zDb]
       have e3:((i+1+n+1:Nat):Int)=(i:Int)+n+2:=by omega
       rw [e3])
      have hslB:∀ w,(Instr.slice 9 (.string s) (some (.int .i64 ((i:Int)+1))) (some (.int .i64 ((i:Int)+1+n))) none).run Tryz.prog w=.ok (.string (s.extract (i+1) (i+1+n))) w:=fun w=>by
       rw [run_slice_string_if w _ s _ _ _ _ Tryz.underlying9,if_pos (by omega),if_pos (by omega)]
       rfl
      have hw2:IntKind.i64.wrap ((i:Int)+1+n)=(i:Int)+1+n:=wI (by omega)
      have hw3:IntKind.i64.wrap ((i:Int)+n)=(i:Int)+n:=wI (by omega)
      have hw4:IntKind.i64.wrap ((i:Int)+n+2)=(i:Int)+n+2:=wI (by omega)
      have hb1:(i:Int)+1+n≤s.size:=by omega
      have hb2:(0:Int)≤(i:Int)+1+n:=by omega
      have hb3:(i:Int)+1≤(i:Int)+1+n:=by omega
      clear HZ HZZ
      generalize bt s i=c at *
      rw [show (⟨#[13]⟩:ByteArray).data.toList=[13] from rfl,show (⟨#[]⟩:ByteArray).data.toList=[] from rfl] at CR
      generalize Lib.replaceAll (s.extract (i+1) (i+1+n)).data.toList [13] []=rl at *
      go_enter Tryz.func121,Tryz.ntmps121
      go_wp2_with fail
      refine (CI.out _).mono ?_;rintro e w' ⟨rfl,rfl⟩
      go_wp2_with fail
      refine (CJ.out _).mono ?_;rintro e w' ⟨rfl,rfl⟩
      go_wp2_with fail
      refine CR.out.mono ?_;rintro e w' ⟨rfl,hbw⟩
      go_wp2_with fail
      refine bodyPost_ret (xW rfl _ _ _) rfl ?_
      exact HQ.out _ _ _ _ _ hbw HZ2.out
    ·have hm2:bt s i=34∨bt s i=39:=by
      unfold isMark at hmk
      simp at hmk
      omega
     have HZ:=Hd (zNh hi hm2)
     have h96':¬ (bt s i:Int)=96:=by omega
     have HRD:=Hd (zKz s w0.heap.size i _ (RS.fresh w0 hT s i) hi hm2 (by omega))
     have HM2:=Hd hm2
     generalize hc:bt s i=c at *
     go_enter Tryz.func121,Tryz.ntmps121
     go_wp2_with fail
     refine (CI.out _).mono ?_;rintro e w' ⟨rfl,rfl⟩
     go_wp2_with fail
     refine HRD.out.mono ?_
     intro e w1 h1
     unfold readPost at h1
     obtain ⟨hb1,h1⟩:=h1
     have hbw:Below w0.heap.size w0 w1:=((Below.refl _ _).alloc (Nat.le_refl _) _).trans hb1
     have HBW:=Hd hbw
     rw [hc] at h1
     cases hl:vK s c (i+1) 0 with
     | none =>
      rw [hl] at h1 HZ
      subst h1
      go_wp2_with fail
      refine bodyPost_ret (xW rfl _ _ _) rfl ?_
      exact HQ.out _ _ _ _ _ HBW.out HZ.out
     | some q =>
      obtain ⟨j,x⟩:=q
      rw [hl] at h1 HZ
      obtain ⟨rfl,hr⟩:=h1
      have c2:=hr.c2;have c1:=hr.c1
      obtain ⟨out,c3,ho⟩:=hr.c3
      have hcv:∀ n,(convert 145 9 out).run Tryz.prog (w1.drewN n)=.ok (.string (strOfNums x)) (w1.drewN n):=fun n=>zMg ho
      have HBN:Hid (∀ n,Below w0.heap.size w0 (w1.drewN n)):=Hd fun n=>bdrewN HBW.out n
      clear hr ho hb1 hbw
      by_cases h34:c=34
      ·have h34':(c:Int)=34:=by omega
       rw [if_pos h34] at HZ
       go_wp2_with fail
       go_quiet (fail)
       go_wp2_with fail
       refine bodyPost_ret (xW rfl _ _ _) rfl ?_
       exact HQ.out _ _ _ _ _ (HBN.out _) HZ.out
      ·have h34':¬ (c:Int)=34:=by omega
       rw [if_neg h34] at HZ
       go_wp2_with fail
       go_quiet (fail)
       go_wp2_with fail
       refine bodyPost_ret (xW rfl _ _ _) rfl ?_
       exact HQ.out _ _ _ _ _ (HBN.out _) HZ.out
   ·have hmk':isMark (bt s i)=false:=by simpa using hmk
    have HZ:=Hd (zTm hmk')
    have hlt:Lib.indexByte [39,34,96] (UInt8.ofNat (bt s i))<0:=by rw [hmk'] at hmi;simpa using hmi
    clear hmk hmk' hmi
    generalize bt s i=c at *
    generalize Lib.indexByte [39,34,96] (UInt8.ofNat c)=x at *
    go_enter Tryz.func121,Tryz.ntmps121
    go_wp2_with fail
    refine (CI.out _).mono ?_;rintro e w' ⟨rfl,rfl⟩
    go_wp2_with fail
    refine bodyPost_ret (xW rfl _ _ _) rfl ?_
    exact HQ.out _ _ _ _ _ (Below.refl _ _) HZ.out
end Go.Proofs.YtfalelkfhandfaaGreatDoor
