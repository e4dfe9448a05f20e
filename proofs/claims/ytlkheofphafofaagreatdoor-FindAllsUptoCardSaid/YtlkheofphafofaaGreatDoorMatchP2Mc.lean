/- Layer 17 in plain Lean: the instance by what is found is the part; an instance is found; where a part stands makes no odds. -/
import Derived.Test.YtlkheofphafofaaGreatDoorMatchPMc
import Derived.Test.YtlkheofphafofaaGreatDoorQuoted5Mc
import Derived.Laws.OwnMore
import Derived.Test.YtlkheofphafofaaGreatDoorQuotedPMc
namespace Go.Proofs.YtlkheofphafofaaGreatDoor
set_option linter.all false

theorem piece_len {l:List Prt} {a b:Nat} (h1:a≤b) (h2:b≤l.length):(piece l a b).length=b-a:=by
 unfold piece;rw [List.length_take,List.length_drop];omega
theorem drop_piece {l:List Prt} {a b:Nat} (h1:a≤b):l.drop a=piece l a b++l.drop b:=by
 unfold piece
 have:=List.take_append_drop (b-a) (l.drop a)
 rw [List.drop_drop,show a+(b-a)=b by omega] at this
 exact this.symm
theorem end_local {l:List Prt} {us:List Nat} (hl:rowsB l=some us) {P R:List Prt} {vs:List Nat} (hP:rowsB P=some vs) {i:Nat} (hd:l.drop i=P++R) {x:Nat} (hx:x<P.length):endB l (i+x)=i+endB P x:=by
 obtain ⟨t,ts,h1,h2,h3,h4⟩:=rows_at hP hx
 have hd2:l.drop (i+x)=P.drop x++R:=by
  rw [← List.drop_drop,hd,List.drop_append_of_le_length (by omega)]
 obtain ⟨rs,hr⟩:=rowsB_drop hl (i+P.length)
 have hR:l.drop (i+P.length)=R:=by rw [← List.drop_drop,hd,List.drop_left]
 rw [hR] at hr
 have h5:=rowsB_app h1 hr
 rw [← hd2] at h5
 unfold endB
 rw [headSize_of h5,headSize_of h1];omega
section
variable (f:List Prt) (hs:List Hl) (v:Nat→List Prt)
mutual
def iPart:Nat→Nat→List Prt
 | 0,_=>[]
 | n+1,p=>match holeOf f hs p with
  | some h=>v h
  | none=>match f[p]? with
   | some a=>(a.1,(cntP (iKids n (p+1) (endB f p)):Int),a.2.2)::iKids n (p+1) (endB f p)
   | none=>[]
def iKids:Nat→Nat→Nat→List Prt
 | 0,_,_=>[]
 | n+1,p,pend=>if p=pend then [] else iPart n p++iKids n (endB f p) pend
end
end
section
variable (f l:List Prt) (hs:List Hl)
theorem hole_parts (p:Nat):(∃ h,oneOf f hs p=some h∧holeOf f hs p=some h∧sevOf f hs p=none)∨(∃ h,sevOf f hs p=some h∧holeOf f hs p=some h∧oneOf f hs p=none)∨(oneOf f hs p=none∧holeOf f hs p=none∧sevOf f hs p=none):=by
 unfold oneOf sevOf
 cases ho:holeOf f hs p with
 | none=>exact Or.inr (Or.inr ⟨rfl,rfl,rfl⟩)
 | some h =>
  simp only []
  by_cases c:isSev (hkind hs h)=true
  ·rw [if_pos c,if_pos c];exact Or.inr (Or.inl ⟨h,rfl,rfl,rfl⟩)
  ·rw [if_neg c,if_neg c];exact Or.inl ⟨h,rfl,rfl,rfl⟩
def Con (v:Nat→List Prt) (σ:MSt):Prop:=σ.length=hs.length∧∀ (h:Nat) (q:Nat×Nat),σ[h]?=some (some q)→piece l q.1 q.2=v h
theorem Con.bind {v:Nat→List Prt} {σ:MSt} (hc:Con l hs v σ) {h a b:Nat} (hh:h<hs.length) (e:piece l a b=v h):∃ τ,bindS l σ h a b=some τ∧Con l hs v τ:=by
 have hl:h<σ.length:=by rw [hc.1];exact hh
 unfold bindS
 rw [List.getElem?_eq_getElem hl]
 cases hq:σ[h] with
 | some q =>
  simp only []
  rw [if_pos (by rw [hc.2 h q (by rw [List.getElem?_eq_getElem hl,hq]),e])]
  exact ⟨σ,rfl,hc⟩
 | none =>
  simp only []
  refine ⟨_,rfl,by rw [List.length_set];exact hc.1,fun k q hk=>?_⟩
  by_cases c:h=k
  ·subst c
   rw [List.getElem?_set_self hl] at hk
   cases hk;exact e
  ·rw [List.getElem?_set_ne c] at hk;exact hc.2 k q hk
theorem hole_lt {p h:Nat} (e:holeOf f hs p=some h):h<hs.length:=(holeOf_inv e).1
end
def shift (d:Nat) (σ:MSt):MSt:=σ.map fun o=>o.map fun q=>(q.1+d,q.2+d)
theorem shift_get (d:Nat) (σ:MSt) (h:Nat):(shift d σ)[h]?=σ[h]?.map fun o=>o.map fun q=>(q.1+d,q.2+d):=by unfold shift;rw [List.getElem?_map]
structure Sits (P l:List Prt) (d:Nat):Prop where
 rP:∃ us,rowsB P=some us
 rL:∃ us,rowsB l=some us
 dr:∃ R,l.drop d=P++R
theorem Sits.len {P l:List Prt} {d:Nat} (h:Sits P l d):d+P.length≤l.length∨P=[]:=by
 obtain ⟨R,hR⟩:=h.dr
 have:=congrArg List.length hR
 rw [List.length_drop,List.length_append] at this
 rcases Nat.eq_zero_or_pos P.length with e | e
 ·exact Or.inr (List.length_eq_zero_iff.1 e)
 ·left;omega
theorem Sits.end_ {P l:List Prt} {d:Nat} (h:Sits P l d) {x:Nat} (hx:x<P.length):endB l (x+d)=endB P x+d:=by
 obtain ⟨us,hl⟩:=h.rL
 obtain ⟨vs,hP⟩:=h.rP
 obtain ⟨R,hR⟩:=h.dr
 have:=end_local hl hP hR hx
 rw [show x+d=d+x by omega,this];omega
theorem Sits.get {P l:List Prt} {d:Nat} (h:Sits P l d) {x:Nat} (hx:x<P.length):l[x+d]?=P[x]?:=by
 obtain ⟨R,hR⟩:=h.dr
 have:(l.drop d)[x]?=P[x]?:=by rw [hR,List.getElem?_append_left hx]
 rw [List.getElem?_drop] at this
 rw [show x+d=d+x by omega];exact this
theorem Sits.pc {P l:List Prt} {d:Nat} (h:Sits P l d) {a b:Nat} (hb:b≤P.length):piece l (a+d) (b+d)=piece P a b:=by
 obtain ⟨R,hR⟩:=h.dr
 unfold piece
 rw [show b+d-(a+d)=b-a by omega,show a+d=d+a by omega,← List.drop_drop,hR]
 by_cases c:a≤P.length
 ·rw [List.drop_append_of_le_length c,List.take_append_of_le_length (by rw [List.length_drop];omega)]
 ·rw [show b-a=0 by omega,List.take_zero,List.take_zero]
theorem Sits.bind {P l:List Prt} {d:Nat} (hS:Sits P l d) {σ:MSt} (hσ:∀ (h:Nat) (q:Nat×Nat),σ[h]?=some (some q)→q.2≤P.length) {h a b:Nat} (hb:b≤P.length):bindS l (shift d σ) h (a+d) (b+d)=(bindS P σ h a b).map (shift d):=by
 unfold bindS
 rw [shift_get]
 cases hq:σ[h]? with
 | none=>rfl
 | some o =>
  cases o with
  | none =>
   simp only [Option.map_some,Option.map_none,Option.some.injEq]
   unfold shift
   rw [List.map_set];rfl
  | some q =>
   simp only [Option.map_some]
   rw [hS.pc hb,hS.pc (hσ h q hq)]
   split <;> rfl
theorem tos_fuel {l:List Prt} {us:List Nat} (hl:rowsB l=some us) {stop:Nat} (hs:stop≤l.length):∀ (m m' a K:Nat),advT l K a stop=some stop→stop-a<m→stop-a<m'→tosL l m a stop=tosL l m' a stop
 | 0,m',a,K,_,h,_=>by omega
 | m+1,0,a,K,_,_,h=>by omega
 | m+1,m'+1,a,K,hK,h1,h2=>by
  rw [tosL,tosL]
  congr 1
  split
  ·rfl
  ·rename_i hne
   obtain ⟨hlt,J,rfl,hJ⟩:=adv_next hK hne
   have:=(endB_gt hl (show a<l.length by omega)).1
   exact tos_fuel hl hs m m' _ J hJ (by omega) (by omega)
theorem Sits.tos {P l:List Prt} {d:Nat} (hS:Sits P l d) {stop:Nat} (hs:stop≤P.length):∀ (m a K:Nat),advT P K a stop=some stop→tosL l m (a+d) (stop+d)=(tosL P m a stop).map (·+d)
 | 0,a,K,_=>by rw [tosL,tosL];rfl
 | m+1,a,K,hK=>by
  rw [tosL,tosL,List.map_cons]
  congr 1
  by_cases c:a=stop
  ·rw [if_pos c,if_pos (by omega)];rfl
  ·rw [if_neg c,if_neg (by omega)]
   obtain ⟨hlt,J,rfl,hJ⟩:=adv_next hK c
   rw [hS.end_ (by omega)]
   exact hS.tos hs m _ J hJ
section
variable (f:List Prt) (hs:List Hl)
def In (P:List Prt) (σ:MSt):Prop:=∀ (h:Nat) (q:Nat×Nat),σ[h]?=some (some q)→q.2≤P.length
theorem In.bind {P:List Prt} {σ τ:MSt} (hi:In P σ) {h a b:Nat} (hb:b≤P.length) (e:bindS P σ h a b=some τ):In P τ:=by
 intro k q hq
 by_cases c:k=h
 ·subst c
  obtain ⟨_,q',q1,_,q3 | ⟨_,rfl,_⟩⟩:=bindS_ext P e
  ·rw [hq] at q1;cases q1;exact hi k q q3
  ·rw [hq] at q1;cases q1;exact hb
 ·rw [bindS_get P e c] at hq;exact hi k q hq
theorem a_in {P:List Prt} {us:List Nat} (hl:rowsB P=some us):∀ n,(∀ p i σ τ,i<P.length→In P σ→τ∈aPart f P hs n p i σ→In P τ) ∧
  (∀ p pend i stop σ τ K,stop≤P.length→advT P K i stop=some stop→In P σ→τ∈aKids f P hs n p pend i stop σ→In P τ)
 | 0=>⟨(fun _ _ _ _ _ _ h=>by rw [aPart] at h;cases h),(fun _ _ _ _ _ _ _ _ _ _ h=>by rw [aKids] at h;cases h)⟩
 | n+1=>by
  obtain ⟨h1,h2⟩:=a_in hl n
  constructor
  ·intro p i σ τ hi hin h
   have hg:=endB_gt hl hi
   rw [aPart] at h
   cases ho:oneOf f hs p with
   | some j =>
    rw [ho] at h
    simp only [] at h
    split at h
    ·rw [Option.mem_toList] at h;exact hin.bind hg.2 h
    ·cases h
   | none =>
    rw [ho] at h
    simp only [] at h
    split at h
    ·obtain ⟨q,_,hq⟩:=adv_kids hl hi
     exact h2 _ _ _ _ _ _ q hg.2 hq hin h
    ·cases h
  ·intro p pend i stop σ τ K hst hK hin h
   rw [aKids] at h
   split at h
   ·split at h
    ·simp at h;subst h;exact hin
    ·cases h
   ·cases ho:sevOf f hs p with
    | some k =>
     rw [ho] at h
     simp only [List.mem_flatMap,Option.mem_toList] at h
     obtain ⟨tx,hto,υ,g1,g2⟩:=h
     obtain ⟨m,hm⟩:=(tos_mem hl hst _ _ K tx hK (by omega)).1 hto
     obtain ⟨r1,r2,r3⟩:=adv_rest hl hst hK hm
     exact h2 _ _ _ _ _ _ _ hst r3 (hin.bind (by omega) g1) g2
    | none =>
     rw [ho] at h
     simp only [] at h
     split at h
     ·simp only [List.mem_flatMap] at h
      obtain ⟨υ,g1,g2⟩:=h
      obtain ⟨_,J,_,hJ⟩:=adv_next hK (show i≠stop by omega)
      exact h2 _ _ _ _ _ _ J hst hJ (h1 _ _ _ _ (by omega) hin g1) g2
     ·cases h
theorem flat_toList_map {β:Type} (o:Option MSt) (g:MSt→MSt) (F:MSt→List β):(o.map g).toList.flatMap F=o.toList.flatMap fun x=>F (g x):=by cases o <;> rfl
theorem flat_map_eq {α:Type} (g:MSt→MSt) (F:α→List MSt) (G:α→List MSt):∀ xs:List α,(∀ x∈xs,F x=(G x).map g)→xs.flatMap F=(xs.flatMap G).map g
 | [],_=>rfl
 | x::xs,h=>by
  rw [List.flatMap_cons,List.flatMap_cons,List.map_append,h x (by simp),flat_map_eq g F G xs (fun y hy=>h y (by simp [hy]))]
theorem a_shift {P l:List Prt} {d:Nat} (hS:Sits P l d):∀ n,(∀ p i σ,i<P.length→In P σ→aPart f l hs n p (i+d) (shift d σ)=(aPart f P hs n p i σ).map (shift d)) ∧
  (∀ p pend i stop σ K,stop≤P.length→advT P K i stop=some stop→In P σ→aKids f l hs n p pend (i+d) (stop+d) (shift d σ)=(aKids f P hs n p pend i stop σ).map (shift d))
 | 0=>⟨(fun _ _ _ _ _=>by rw [aPart,aPart];rfl),(fun _ _ _ _ _ _ _ _ _=>by rw [aKids,aKids];rfl)⟩
 | n+1=>by
  obtain ⟨h1,h2⟩:=a_shift hS n
  obtain ⟨vs,hP⟩:=hS.rP
  obtain ⟨us,hl⟩:=hS.rL
  constructor
  ·intro p i σ hi hin
   have hg:=endB_gt hP hi
   rw [aPart,aPart]
   have hk:kindAt l (i+d)=kindAt P i:=by unfold kindAt;rw [hS.get hi]
   cases ho:oneOf f hs p with
   | some j =>
    simp only []
    rw [hk]
    split
    ·rw [hS.end_ hi,hS.bind hin hg.2]
     cases bindS P σ j i (endB P i) <;> rfl
    ·rfl
   | none =>
    simp only []
    have ha:alikeP f l p (i+d)=alikeP f P p i:=by unfold alikeP;rw [hS.get hi]
    rw [ha]
    split
    ·obtain ⟨q,_,hq⟩:=adv_kids hP hi
     rw [hS.end_ hi,show i+d+1=i+1+d by omega]
     exact h2 _ _ _ _ _ q hg.2 hq hin
    ·rfl
  ·intro p pend i stop σ K hst hK hin
   rw [aKids,aKids]
   by_cases hp:p=pend
   ·rw [if_pos hp,if_pos hp]
    by_cases c:i=stop
    ·rw [if_pos c,if_pos (by omega)];rfl
    ·rw [if_neg c,if_neg (by omega)];rfl
   ·rw [if_neg hp,if_neg hp]
    cases ho:sevOf f hs p with
    | some k =>
     simp only []
     have hlen:=hS.len
     have hle:=adv_le hP _ _ _ _ hst hK
     have ht1:tosL l (l.length+1) (i+d) (stop+d)=(tosL P (P.length+1) i stop).map (·+d):=by
      rcases hlen with hlen | hlen
      ·rw [hS.tos hst _ _ K hK]
       congr 1
       exact tos_fuel hP hst _ _ _ K hK (by omega) (by omega)
      ·subst hlen
       simp at hst
       subst hst
       obtain rfl:i=0:=by omega
       rw [tosL,tosL];simp
     rw [ht1,List.flatMap_map]
     refine flat_map_eq _ _ _ _ fun tx hto=>?_
     obtain ⟨m,hm⟩:=(tos_mem hP hst _ _ K tx hK (by omega)).1 hto
     obtain ⟨r1,r2,r3⟩:=adv_rest hP hst hK hm
     rw [hS.bind hin (by omega),flat_toList_map]
     cases hb:bindS P σ k i tx with
     | none=>rfl
     | some υ =>
      simp only [Option.toList_some,List.flatMap_cons,List.flatMap_nil,List.append_nil]
      exact h2 _ _ _ _ _ _ hst r3 (hin.bind (by omega) hb)
    | none =>
     simp only []
     by_cases c:i<stop
     ·rw [if_pos c,if_pos (by omega),h1 _ _ _ (by omega) hin,List.flatMap_map,hS.end_ (by omega)]
      obtain ⟨_,J,_,hJ⟩:=adv_next hK (show i≠stop by omega)
      refine flat_map_eq _ _ _ _ fun υ hυ=>?_
      exact h2 _ _ _ _ _ J hst hJ ((a_in f hs hP n).1 _ _ _ _ (by omega) hin hυ)
     ·rw [if_neg c,if_neg (by omega)];rfl
end
theorem HolesOK.bare2 {f:List Prt} {hs:List Hl} (H:HolesOK f hs) {p h:Nat} (hp:p<f.length) (ho:holeOf f hs p=some h) {q:Nat} (hpq:p<q) (hq:q<endB f p):holeOf f hs q=none:=by
 have hf:=well_rows H.well
 obtain ⟨hh,e⟩:=holeOf_inv ho
 rcases stands_inv e with ⟨a1,a2,a3,a4,a5⟩ | ⟨a1,a2,a5⟩
 ·have h1:=end_stmt hf hp (H.stmt p hp a4)
  have h2:=end_leaf hf a3 (H.leaf _ a3 (place_name a5).1)
  obtain rfl:q=p+1:=by omega
  cases hv:holeOf f hs (p+1) with
  | none=>rfl
  | some j =>
   exfalso
   obtain ⟨hj,e2⟩:=holeOf_inv hv
   rcases stands_inv e2 with ⟨b1,b2,b3,b4,b5⟩ | ⟨b1,b2,b5⟩
   ·have:=(place_name a5).1;omega
   ·have:=H.uniq h j hh hj (by rw [← (place_name a5).2,← (place_name b5).2])
    subst this
    rw [a1] at b1;cases b1
 ·have h2:=end_leaf hf hp (H.leaf _ hp (place_name a5).1)
  omega
section
variable (f l:List Prt) (hs:List Hl)
theorem a_all (H:HolesOK f hs):∀ n,(∀ p i σ τ,p<f.length→sevOf f hs p=none→τ∈aPart f l hs n p i σ→∀ q h,p≤q→q<endB f p→holeOf f hs q=some h→MBnd τ h) ∧
  (∀ p pend i stop σ τ K,pend≤f.length→advT f K p pend=some pend→τ∈aKids f l hs n p pend i stop σ→∀ q h,p≤q→q<pend→holeOf f hs q=some h→MBnd τ h)
 | 0=>⟨(fun _ _ _ _ _ _ h=>by rw [aPart] at h;cases h),(fun _ _ _ _ _ _ _ _ _ h=>by rw [aKids] at h;cases h)⟩
 | n+1=>by
  obtain ⟨h1,h2⟩:=a_all H n
  have hf:=well_rows H.well
  constructor
  ·intro p i σ τ hp hsv h q k hpq hq hk
   rw [aPart] at h
   rcases hole_parts f hs p with ⟨j,e1,e2,e3⟩ | ⟨j,e1,_⟩ | ⟨e1,e2,e3⟩
   ·rw [e1] at h
    simp only [] at h
    split at h
    ·rw [Option.mem_toList] at h
     rcases Nat.lt_or_ge p q with c | c
     ·rw [H.bare2 hp e2 c hq] at hk;cases hk
     ·obtain rfl:p=q:=by omega
      rw [e2] at hk;cases hk
      obtain ⟨_,x,q1,_⟩:=bindS_ext l h
      exact ⟨x,q1⟩
    ·cases h
   ·rw [hsv] at e1;cases e1
   ·rw [e1] at h
    simp only [] at h
    split at h
    ·rcases Nat.lt_or_ge p q with c | c
     ·obtain ⟨x,_,hx⟩:=adv_kids hf hp
      exact h2 _ _ _ _ _ _ x (endB_gt hf hp).2 hx h q k (by omega) hq hk
     ·obtain rfl:p=q:=by omega
      rw [e2] at hk;cases hk
    ·cases h
  ·intro p pend i stop σ τ K hpe hK h q k hpq hq hk
   rw [aKids] at h
   split at h
   ·omega
   ·rename_i hp
    obtain ⟨hlt,J,_,hJ⟩:=adv_next hK hp
    have hle:=adv_le hf _ _ _ _ hpe hJ
    have hg:=endB_gt hf (show p<f.length by omega)
    cases ho:sevOf f hs p with
    | some j =>
     rw [ho] at h
     simp only [List.mem_flatMap,Option.mem_toList] at h
     obtain ⟨tx,hto,υ,g1,g2⟩:=h
     rcases Nat.lt_or_ge q (endB f p) with c | c
     ·rcases Nat.lt_or_ge p q with c2 | c2
      ·rw [H.bare2 (by omega) (sevOf_sev f hs ho).2 c2 c] at hk;cases hk
      ·obtain rfl:p=q:=by omega
       rw [(sevOf_sev f hs ho).2] at hk;cases hk
       obtain ⟨_,x,q1,_⟩:=bindS_ext l g1
       exact MBnd.ext ⟨x,q1⟩ ((a_ext f l hs n).2 _ _ _ _ _ _ g2)
     ·exact h2 _ _ _ _ _ _ J hpe hJ g2 q k c hq hk
    | none =>
     rw [ho] at h
     simp only [] at h
     split at h
     ·simp only [List.mem_flatMap] at h
      obtain ⟨υ,g1,g2⟩:=h
      rcases Nat.lt_or_ge q (endB f p) with c | c
      ·exact (h1 _ _ _ _ (by omega) ho g1 q k hpq c hk).ext ((a_ext f l hs n).2 _ _ _ _ _ _ g2)
      ·exact h2 _ _ _ _ _ _ J hpe hJ g2 q k c hq hk
     ·cases h
def Good1 (lo hi:Nat) (h:Nat) (q:Nat×Nat):Prop:=lo≤q.1∧q.1≤q.2∧q.2≤hi∧(∃ K,advT l K q.1 q.2=some q.2)∧(isSev (hkind hs h)=false→q.1<l.length∧endB l q.1=q.2∧mayB (hkind hs h) (kindAt l q.1)=true)
theorem Good1.wide {lo hi lo' hi' h:Nat} {q:Nat×Nat} (g:Good1 l hs lo hi h q) (h1:lo'≤lo) (h2:hi≤hi'):Good1 l hs lo' hi' h q:=⟨Nat.le_trans h1 g.1,g.2.1,Nat.le_trans g.2.2.1 h2,g.2.2.2⟩
theorem a_good {us:List Nat} (hl:rowsB l=some us):∀ n,(∀ p i σ τ,i<l.length→sevOf f hs p=none→τ∈aPart f l hs n p i σ→∀ (h:Nat) (q:Nat×Nat),τ[h]?=some (some q)→σ[h]?=some (some q)∨Good1 l hs i (endB l i) h q) ∧
  (∀ p pend i stop σ τ K,stop≤l.length→advT l K i stop=some stop→τ∈aKids f l hs n p pend i stop σ→∀ (h:Nat) (q:Nat×Nat),τ[h]?=some (some q)→σ[h]?=some (some q)∨Good1 l hs i stop h q)
 | 0=>⟨(fun _ _ _ _ _ _ h=>by rw [aPart] at h;cases h),(fun _ _ _ _ _ _ _ _ _ h=>by rw [aKids] at h;cases h)⟩
 | n+1=>by
  obtain ⟨h1,h2⟩:=a_good hl n
  constructor
  ·intro p i σ τ hi hsv h k q hq
   have hg:=endB_gt hl hi
   rw [aPart] at h
   cases ho:oneOf f hs p with
   | some j =>
    rw [ho] at h
    simp only [] at h
    split at h
    ·rename_i hmay
     rw [Option.mem_toList] at h
     by_cases hne:k=j
     ·subst hne
      obtain ⟨_,q',q1,_,q3 | ⟨_,q3,_⟩⟩:=bindS_ext l h
      ·rw [hq] at q1;cases q1;exact Or.inl q3
      ·rw [hq] at q1;cases q1
       right
       subst q3
       exact ⟨Nat.le_refl _,by show i≤endB l i;omega,Nat.le_refl _,⟨1,by rw [advT,if_pos hg.1,advT]⟩,fun _=>⟨hi,rfl,hmay⟩⟩
     ·rw [bindS_get l h hne] at hq;exact Or.inl hq
    ·cases h
   | none =>
    rw [ho] at h
    simp only [] at h
    split at h
    ·obtain ⟨b,hbk,hb⟩:=adv_kids hl hi
     rcases h2 _ _ _ _ _ _ b hg.2 hb h k q hq with g | g
     ·exact Or.inl g
     ·exact Or.inr (g.wide l hs (by omega) (by omega))
    ·cases h
  ·intro p pend i stop σ τ M hst hM h k q hq
   rw [aKids] at h
   split at h
   ·split at h
    ·simp at h;subst h;exact Or.inl hq
    ·cases h
   ·cases ho:sevOf f hs p with
    | some j =>
     rw [ho] at h
     simp only [List.mem_flatMap,Option.mem_toList] at h
     obtain ⟨tx,hto,υ,g1,g2⟩:=h
     obtain ⟨m,hm2⟩:=(tos_mem hl hst _ _ M tx hM (by omega)).1 hto
     obtain ⟨r1,r2,r3⟩:=adv_rest hl hst hM hm2
     have hle:=adv_le hl _ _ _ _ hst hm2
     rcases h2 _ _ _ _ _ _ (M-m) hst r3 g2 k q hq with g3 | g3
     ·by_cases hne:k=j
      ·subst hne
       obtain ⟨_,q',q1,_,q3 | ⟨_,q3,_⟩⟩:=bindS_ext l g1
       ·rw [g3] at q1;cases q1;exact Or.inl q3
       ·rw [g3] at q1;cases q1
        right
        subst q3
        refine ⟨Nat.le_refl _,by show i≤tx;omega,r2,⟨m,adv_stop hl _ _ _ _ hst hm2 r2⟩,fun e=>?_⟩
        rw [(sevOf_sev f hs ho).1] at e;cases e
      ·rw [bindS_get l g1 hne] at g3;exact Or.inl g3
     ·exact Or.inr (g3.wide l hs (by omega) (Nat.le_refl _))
    | none =>
     rw [ho] at h
     simp only [] at h
     split at h
     ·rename_i hi
      simp only [List.mem_flatMap] at h
      obtain ⟨υ,g1,g2⟩:=h
      obtain ⟨_,M',e,hM'⟩:=adv_next hM (show i≠stop by omega)
      have hg:=endB_gt hl (show i<l.length by omega)
      have hle:=adv_le hl _ _ _ _ hst hM'
      rcases h2 _ _ _ _ _ _ M' hst hM' g2 k q hq with g3 | g3
      ·rcases h1 _ _ _ _ (by omega) ho g1 k q g3 with g4 | g4
       ·exact Or.inl g4
       ·exact Or.inr (g4.wide l hs (Nat.le_refl _) (by omega))
      ·exact Or.inr (g3.wide l hs (by omega) (Nat.le_refl _))
     ·cases h
theorem up_max {i:Nat}:∀ {k u:Nat},upI l i k=(u:Int)→u<k∧i<endB l u∧∀ j,u<j→j<k→endB l j≤i
 | 0,u,h=>by rw [upI] at h;omega
 | k+1,u,h=>by
  rw [upI] at h
  split at h
  ·rename_i hc
   obtain rfl:k=u:=by omega
   exact ⟨by omega,hc,fun j h1 h2=>by omega⟩
  ·rename_i hc
   obtain ⟨h1,h2,h3⟩:=up_max h
   refine ⟨by omega,h2,fun j g1 g2=>?_⟩
   by_cases e:j=k
   ·subst e;omega
   ·exact h3 j g1 (by omega)
theorem HolesOK.place_at {f:List Prt} {hs:List Hl} (H:HolesOK f hs) {h:Nat} (hh:h<hs.length) {p:Nat} (hp:p<f.length) (hpl:isPlace f[p] hs[h]=true):∃ q,q<f.length∧holeOf f hs q=some h:=by
 have hpo:=H.plc h hh p hp hpl
 by_cases c:isStmt (hs[h]).2=true
 ·have hu:kindI f (upN f p)=some 50:=by
   unfold placeOK at hpo
   unfold isStmt at c
   simp at c
   rcases c with c | c
   ·rw [if_pos c] at hpo;simpa using hpo
   ·rw [if_neg (by omega),if_pos c] at hpo
    simp at hpo;exact hpo.1
  unfold kindI at hu
  split at hu
  ·cases hu
  ·rename_i hneg
   obtain ⟨u,hue⟩:∃ u:Nat,upN f p=(u:Int):=⟨(upN f p).toNat,by omega⟩
   rw [hue] at hu
   simp only [Int.toNat_natCast,Option.map_eq_some_iff] at hu
   obtain ⟨a,ha,hk⟩:=hu
   obtain ⟨h1,rfl⟩:=List.getElem?_eq_some_iff.1 ha
   have hf:=well_rows H.well
   obtain ⟨g1,g2,g3⟩:=up_max f hue
   obtain ⟨k1,k2⟩:=end_stmt hf h1 (H.stmt u h1 hk)
   have hpu:p=u+1:=by
    rcases Nat.lt_or_ge (u+1) p with c3 | c3
    ·have:=g3 (u+1) (by omega) c3;omega
    ·omega
   subst hpu
   refine ⟨u,h1,H.stands hh ?_⟩
   unfold standsAt
   have:=place_name hpl
   rw [if_pos c,List.getElem?_eq_getElem h1,List.getElem?_eq_getElem k1]
   simp [hk,this.1,this.2]
 ·refine ⟨p,hp,H.stands hh ?_⟩
  unfold standsAt
  have:=place_name hpl
  rw [if_neg c,List.getElem?_eq_getElem hp]
  simp [this.1,this.2]
end
end Go.Proofs.YtlkheofphafofaaGreatDoor
namespace Go.Proofs.YtlkheofphafofaaGreatDoor
set_option linter.all false
open Go.RowKit
attribute [local irreducible] wpStill

@[irreducible] def valuePost (s:ByteArray) (w0:World) (e:Ending) (w':World):Prop :=
 e=.returned (.tuple #[.string (value s).1,.int .i64 (value s).2])∧Below w0.heap.size w0 w'
set_option maxRecDepth 100000 in
set_option maxHeartbeats 4000000 in
theorem quoted_Value (s:ByteArray) (w0:World) (hT:Tabs w0) (hM:MaxC w0) (hs:s.size≤2147483647) :
  Calls Tryz.prog 92 #[.string s] w0 (valuePost s w0):=by
 have CB:=Hd (quoted_begun s 0 w0 hT hM hs)
 have HQ:RowKit.Hid (∀ w' v err,Below w0.heap.size w0 w'→value s=(v,err)→valuePost s w0 (.returned (.tuple #[.string v,.int .i64 err])) w') :=
  Hd fun w' v err h1 h2=>by unfold valuePost;rw [h2];exact ⟨rfl,h1⟩
 generalize valuePost s w0=Q at *
 have hV:value s=if (begun s 0).2.2.2=0∧(begun s 0).2.1=s.size then ((begun s 0).2.2.1,0) else (ByteArray.empty,4):=by unfold value;rfl
 have HV:=Hd hV
 clear hV
 go_enter Tryz.func92,Tryz.ntmps92
 go_wp2_with fail
 refine CB.out.mono ?_
 intro e w1 h1
 unfold begunPost at h1
 obtain ⟨rfl,hb⟩:=h1
 unfold begunVals
 generalize begun s 0=q at *
 obtain ⟨k,t,v,err⟩:=q
 have HB:=Hd hb
 clear hb
 by_cases h1:err=0
 ·by_cases h2:t=s.size
  ·go_wp2_with fail
   exact HQ.out _ _ _ HB.out (by rw [HV.out,if_pos ⟨h1,h2⟩])
  ·go_wp2_with fail
   exact HQ.out _ _ _ HB.out (by rw [HV.out,if_neg (fun h=>h2 h.2)];rfl)
 ·go_wp2_with fail
  exact HQ.out _ _ _ HB.out (by rw [HV.out,if_neg (fun h=>h1 h.1)];rfl)
end Go.Proofs.YtlkheofphafofaaGreatDoor
namespace Go.Proofs.YtlkheofphafofaaGreatDoor
set_option linter.all false

theorem begun_body {s:ByteArray} {i:Nat} (hi:i<s.size) (hm:bt s i=34):begun s i=match body s (i+1) with
  | none=>(0,0,ByteArray.empty,4)
  | some (e,l)=>(7,e,strOfNums l,0):=by
 rw [begun_read hi (Or.inl hm),hm]
 unfold loopZ
 simp only [if_true]
 all_goals (cases body s (i+1) <;> rfl)
theorem body_end {s:ByteArray} {i:Nat} (h:¬ i<s.size):body s i=none:=by unfold body;rw [dif_neg h]
theorem body_mark {s:ByteArray} {i:Nat} (h:i<s.size) (hc:bt s i=34):body s i=some (i+1,[]):=by unfold body;rw [dif_pos h,if_pos hc]
theorem body_item {s:ByteArray} {i:Nat} (h:i<s.size) (hc:bt s i≠34):body s i=(item s i 34).bind fun q=>(body s (i+q.1)).map fun p=>(p.1,q.2++p.2):=by
 have:=loopZ_item (mark:=34) (k:=0) (Or.inl rfl) h hc
 unfold loopZ at this
 simpa using this
theorem raw_end {s:ByteArray} {i:Nat} (h:¬ i<s.size):raw s i=none:=by unfold raw;rw [if_neg h]
theorem raw_mark {s:ByteArray} {i:Nat} (h:i<s.size) (hc:bt s i=96):raw s i=some (i+1,[]):=by unfold raw;rw [if_pos h,if_pos hc]
theorem raw_next {s:ByteArray} {i:Nat} (h:i<s.size) (hc:bt s i≠96):raw s i=(raw s (i+1)).map fun p=>(p.1,(if bt s i=13 then [] else [(bt s i:Int)])++p.2):=by rw [raw,if_pos h,if_neg hc]
theorem begun_single {s:ByteArray} {i:Nat} (hi:i<s.size) (hm:bt s i=39):begun s i=match single s (i+1) with
  | none=>(0,0,ByteArray.empty,4)
  | some (e,l)=>(6,e,strOfNums l,0):=by
 rw [begun_read hi (Or.inr hm),hm]
 unfold loopZ
 rw [if_neg (by decide),if_pos rfl]
 all_goals (cases single s (i+1) <;> rfl)
theorem single_end {s:ByteArray} {i:Nat} (h:¬ i<s.size):single s i=none:=by unfold single;rw [if_neg h]
theorem single_mark {s:ByteArray} {i:Nat} (h:i<s.size) (hc:bt s i=39):single s i=none:=by unfold single;rw [if_pos h,if_pos hc]
theorem single_none {s:ByteArray} {i:Nat} (h:i<s.size) (hc:bt s i≠39) (hit:item s i 39=none):single s i=none:=by unfold single;rw [if_pos h,if_neg hc,hit]
theorem single_some {s:ByteArray} {i n:Nat} {l:List Int} (h:i<s.size) (hc:bt s i≠39) (hit:item s i 39=some (n,l)):single s i=if i+n<s.size∧bt s (i+n)=39 then some (i+n+1,l) else none:=by unfold single;rw [if_pos h,if_neg hc,hit]
end Go.Proofs.YtlkheofphafofaaGreatDoor
namespace Go.Proofs.YtlkheofphafofaaGreatDoor
set_option linter.all false

end Go.Proofs.YtlkheofphafofaaGreatDoor
