/- Layer 17 in plain Lean: the instance by what is found is the part; an instance is found; where a part stands makes no odds. -/
import Derived.Test.YtbjkdmbcpkopjaaGreatDoorMatchPMt
namespace Go.Proofs.YtbjkdmbcpkopjaaGreatDoor
set_option linter.all false

theorem vW {l:List Prt} {a b:Nat} (h1:a≤b) (h2:b≤l.length):(piece l a b).length=b-a:=by
 unfold piece;rw [List.length_take,List.length_drop];omega
theorem fL (l:List Prt) (a:Nat):piece l a a=[]:=by unfold piece;rw [Nat.sub_self];rfl
theorem zUb {l:List Prt} {a b:Nat} (h1:a≤b) (h2:b≤l.length) (h:piece l a b=[]):a=b:=by
 have:=congrArg List.length h;rw [vW h1 h2] at this;simp at this;omega
theorem fM {l:List Prt} {a b:Nat} (h1:a<b) (h2:b≤l.length):piece l a b=l[a]::piece l (a+1) b:=by
 unfold piece;rw [List.drop_eq_getElem_cons (by omega),show b-a=(b-(a+1))+1 by omega,List.take_succ_cons]
theorem zQr {l:List Prt} {a b:Nat} {A B:List Prt} (h1:a≤b) (h2:b≤l.length) (h:piece l a b=A++B):piece l a (a+A.length)=A∧piece l (a+A.length) b=B∧a+A.length≤b:=by
 have hl:=congrArg List.length h;rw [vW h1 h2,lA] at hl;have h3:=jQ l (show a≤a+A.length by omega) (show a+A.length≤b by omega);rw [h] at h3;have h4:=List.append_inj h3 (by rw [vW (by omega) (by omega)];omega);exact ⟨h4.1.symm,h4.2.symm,by omega⟩
theorem zBr {l:List Prt} {a b:Nat} (h1:a≤b):l.drop a=piece l a b++l.drop b:=by
 unfold piece;have:=List.take_append_drop (b-a) (l.drop a);rw [List.drop_drop,show a+(b-a)=b by omega] at this;exact this.symm
theorem zDg {l:List Prt} {us:List Nat} (hl:zD l=some us) {P R:List Prt} {vs:List Nat} (hP:zD P=some vs) {i:Nat} (hd:l.drop i=P++R) {x:Nat} (hx:x<P.length):zB l (i+x)=i+zB P x:=by
 obtain ⟨t,ts,h1,h2,h3,h4⟩:=zMf hP hx;have hd2:l.drop (i+x)=P.drop x++R:=by
  rw [← List.drop_drop,hd,List.drop_append_of_le_length (by omega)]
 obtain ⟨rs,hr⟩:=gG hl (i+P.length);have hR:l.drop (i+P.length)=R:=by rw [← List.drop_drop,hd,List.drop_left]
 rw [hR] at hr;have h5:=kT h1 hr;rw [← hd2] at h5;unfold zB;rw [yW h5,yW h1];omega
theorem zKt {l:List Prt} {us:List Nat} (hl:zD l=some us) {b:Nat} (hb:b≤l.length):∀ (ts:List Nat) (A R:List Prt) (a:Nat),zD A=some ts→l.drop a=A++R→a+A.length≤b→advT l ts.length a b=some (a+A.length)
 | [],A,R,a,hA,hd,hle=>by
  have:=(zU hA).1;simp at this;rw [lN,advT,← this];rfl
 | t::ts,A,R,a,hA,hd,hle=>by
  have hs:=zU hA;have ht:=hs.2.2 t (by simp);have hsum:=hs.1;rw [List.sum_cons] at hsum;have hk:=kS 1 hA (by simp);simp only [List.take_succ_cons,List.take_zero,List.sum_cons,List.sum_nil,Nat.add_zero,List.drop_succ_cons,List.drop_zero] at hk;have he:zB l a=a+t:=by
   have:=zDg hl hA (i:=a) (R:=R) hd (x:=0) (by omega);rw [Nat.add_zero] at this;rw [this];unfold zB;rw [List.drop_zero,yW hA];omega
  rw [lC,advT,iP (by omega),he];have hd2:l.drop (a+t)=A.drop t++R:=by
   rw [← List.drop_drop,hd,List.drop_append_of_le_length (by omega)]
  rw [zKt hl hb ts (A.drop t) R (a+t) hk hd2 (by rw [List.length_drop];omega),List.length_drop]
  congr 1;omega

section
variable (f:List Prt) (hs:List Hl) (v:Nat→List Prt)
mutual
def iPart:Nat→Nat→List Prt
 | 0,_=>[]
 | n+1,p=>match zL f hs p with
  | some h=>v h
  | none=>match f[p]? with
   | some a=>(a.1,(cntP (iKids n (p+1) (zB f p)):Int),a.2.2)::iKids n (p+1) (zB f p)
   | none=>[]
def iKids:Nat→Nat→Nat→List Prt
 | 0,_,_=>[]
 | n+1,p,pend=>if p=pend then [] else iPart n p++iKids n (zB f p) pend
end
theorem zXk {a b:List Prt} {us ts:List Nat} (h:zD a=some us) (g:zD b=some ts):cntP (a++b)=us.length+ts.length:=by
 unfold cntP;rw [kT h g];simp
theorem zKu {a:List Prt} {us:List Nat} (h:zD a=some us):cntP a=us.length:=by unfold cntP;rw [h]
theorem zKv (hv:∀ h,∃ ts,zD (v h)=some ts):∀ n,(∀ p,∃ ts,zD (iPart f hs v n p)=some ts∧(zL f hs p=none→p<f.length→0<n→ts.length=1))∧(∀ p pend,∃ ts,zD (iKids f hs v n p pend)=some ts)
 | 0=>⟨(fun p=>⟨[],by rw [iPart];rfl,fun _ _ h=>by omega⟩),(fun _ _=>⟨[],by rw [iKids];rfl⟩)⟩
 | n+1=>by
  obtain ⟨h1,h2⟩:=zKv hv n;constructor
  ·intro p;rw [iPart];cases ho:zL f hs p with
   | some h =>
    obtain ⟨ts,ht⟩:=hv h;exact ⟨ts,ht,fun e=>by cases e⟩
   | none =>
    simp only [];cases ha:f[p]? with
    | none =>
     refine ⟨[],rfl,fun _ hp=>?_⟩;rw [gE hp] at ha;cases ha
    | some a =>
     simp only [];obtain ⟨ks,hk⟩:=h2 (p+1) (zB f p);rw [gF hk (by simp) (by rw [zKu hk];exact Int.le_refl _)];exact ⟨_,rfl,fun _ _ _=>by rw [zKu hk];simp⟩
  ·intro p pend;rw [iKids];split
   ·exact ⟨[],rfl⟩
   ·obtain ⟨ts,ht,_⟩:=h1 p;obtain ⟨ks,hk⟩:=h2 (zB f p) pend;exact ⟨_,kT ht hk⟩
end
section
variable (f l:List Prt) (hs:List Hl)
theorem jW (p:Nat):(∃ h,oneOf f hs p=some h∧zL f hs p=some h∧sevOf f hs p=none)∨(∃ h,sevOf f hs p=some h∧zL f hs p=some h∧oneOf f hs p=none)∨(oneOf f hs p=none∧zL f hs p=none∧sevOf f hs p=none):=by
 unfold oneOf sevOf;cases ho:zL f hs p with
 | none=>exact Or.inr (Or.inr ⟨rfl,rfl,rfl⟩)
 | some h =>
  simp only [];by_cases c:isSev (hkind hs h)=true
  ·rw [iP c,iP c];exact Or.inr (Or.inl ⟨h,rfl,rfl,rfl⟩)
  ·rw [iN c,iN c];exact Or.inl ⟨h,rfl,rfl,rfl⟩
theorem zUc {p i:Nat} (h:alikeP f l p i=true):∃ (hp:p<f.length) (hi:i<l.length),(f[p]).1=(l[i]).1∧(f[p]).2.2=(l[i]).2.2:=by
 unfold alikeP at h;split at h
 ·rename_i a b ha hb;obtain ⟨h1,rfl⟩:=List.getElem?_eq_some_iff.1 ha;obtain ⟨h2,rfl⟩:=List.getElem?_eq_some_iff.1 hb;simp at h;exact ⟨h1,h2,h⟩
 ·cases h
theorem zGf {us:List Nat} (hl:zD l=some us) {K a b:Nat} (hb:b≤l.length) (h:advT l K a b=some b):a≤b∧cntP (piece l a b)=K:=by
 have:=yY hl _ _ _ _ hb h;exact ⟨by omega,yBa hl hb h (nR _)⟩
theorem zXl {us:List Nat} (hl:zD l=some us) (υ:MSt) (v:Nat→List Prt) (hv:∀ (h:Nat) (q:Nat×Nat),υ[h]?=some (some q)→v h=piece l q.1 q.2):∀ n,(∀ p i σ τ,i<l.length→sevOf f hs p=none→τ∈aPart f l hs n p i σ→MExt τ υ→iPart f hs v n p=piece l i (zB l i)) ∧
  (∀ p pend i stop σ τ K,stop≤l.length→advT l K i stop=some stop→τ∈aKids f l hs n p pend i stop σ→MExt τ υ→iKids f hs v n p pend=piece l i stop)
 | 0=>⟨(fun _ _ _ _ _ _ h=>by rw [aPart] at h;cases h),(fun _ _ _ _ _ _ _ _ _ h=>by rw [aKids] at h;cases h)⟩
 | n+1=>by
  obtain ⟨h1,h2⟩:=zXl hl υ v hv n;constructor
  ·intro p i σ τ hi hsv h he;rw [aPart] at h;rw [iPart];rcases jW f hs p with ⟨k,e1,e2,e3⟩ | ⟨k,e1,_⟩ | ⟨e1,e2,e3⟩
   ·rw [e1] at h;rw [e2];simp only [] at h ⊢;split at h
    ·rw [Option.mem_toList] at h;obtain ⟨_,q,q1,q2,_⟩:=vF l h;rw [hv k q (he.2 _ _ q1),q2]
    ·cases h
   ·rw [hsv] at e1;cases e1
   ·rw [e1] at h;rw [e2];simp only [] at h ⊢;split at h
    ·rename_i ha;obtain ⟨g1,g2,g3,g4⟩:=zUc f l ha;obtain ⟨q,k1,k2⟩:=xF hl hi;have hle:=(zP hl hi);rw [gE g1,h2 _ _ _ _ _ _ q hle.2 k2 h he];simp only [];rw [(zGf l hl hle.2 k2).2,fM hle.1 hle.2,g3,g4,← k1]
    ·cases h
  ·intro p pend i stop σ τ K hst hK h he;rw [aKids] at h;rw [iKids];split at h
   ·rename_i hp;rw [iP hp];split at h
    ·rename_i hi;rw [hi,fL]
    ·cases h
   ·rename_i hp;rw [iN hp];rcases jW f hs p with ⟨k,e1,e2,e3⟩ | ⟨k,e3,e2,e1⟩ | ⟨e1,e2,e3⟩
    ·rw [e3] at h;simp only [] at h;split at h
     ·rename_i hi;simp only [List.mem_flatMap] at h;obtain ⟨υ',g1,g2⟩:=h;obtain ⟨_,J,_,hJ⟩:=yZ hK (show i≠stop by omega);have hg:=zP hl (show i<l.length by omega);have hle:=yY hl _ _ _ _ hst hJ;rw [h1 _ _ _ _ (by omega) e3 g1 (((zGc f l hs n).2 _ _ _ _ _ _ g2).trans he),h2 _ _ _ _ _ _ J hst hJ g2 he,← jQ l (by omega) (by omega)]
     ·cases h
    ·rw [e3] at h;simp only [List.mem_flatMap,Option.mem_toList] at h;obtain ⟨tx,hto,υ',g1,g2⟩:=h;obtain ⟨m,hm⟩:=(fK hl hst _ _ K tx hK (by omega)).1 hto;obtain ⟨r1,r2,r3⟩:=jB hl hst hK hm;have hle:=yY hl _ _ _ _ hst hm;obtain ⟨_,q,q1,q2,_⟩:=vF l g1;have hn:0<n:=by
      cases n with
      | zero=>rw [aKids] at g2;cases g2
      | succ n=>omega
     have e4:iPart f hs v n p=v k:=by
      obtain ⟨n',rfl⟩:∃ n',n=n'+1:=⟨n-1,by omega⟩;rw [iPart,e2]
     rw [e4,hv k q (he.2 _ _ (((zGc f l hs n).2 _ _ _ _ _ _ g2).2 _ _ q1)),q2,h2 _ _ _ _ _ _ _ hst r3 g2 he,← jQ l (by omega) r2]
    ·rw [e3] at h;simp only [] at h;split at h
     ·rename_i hi;simp only [List.mem_flatMap] at h;obtain ⟨υ',g1,g2⟩:=h;obtain ⟨_,J,_,hJ⟩:=yZ hK (show i≠stop by omega);have hg:=zP hl (show i<l.length by omega);have hle:=yY hl _ _ _ _ hst hJ;rw [h1 _ _ _ _ (by omega) e3 g1 (((zGc f l hs n).2 _ _ _ _ _ _ g2).trans he),h2 _ _ _ _ _ _ J hst hJ g2 he,← jQ l (by omega) (by omega)]
     ·cases h
def Con (v:Nat→List Prt) (σ:MSt):Prop:=σ.length=hs.length∧∀ (h:Nat) (q:Nat×Nat),σ[h]?=some (some q)→piece l q.1 q.2=v h
theorem Con.bind {v:Nat→List Prt} {σ:MSt} (hc:Con l hs v σ) {h a b:Nat} (hh:h<hs.length) (e:piece l a b=v h):∃ τ,bindS l σ h a b=some τ∧Con l hs v τ:=by
 have hl:h<σ.length:=by rw [hc.1];exact hh
 unfold bindS;rw [gE hl];cases hq:σ[h] with
 | some q =>
  simp only [];rw [iP (by rw [hc.2 h q (by rw [gE hl,hq]),e])];exact ⟨σ,rfl,hc⟩
 | none =>
  simp only [];refine ⟨_,rfl,by rw [List.length_set];exact hc.1,fun k q hk=>?_⟩;by_cases c:h=k
  ·subst c;rw [List.getElem?_set_self hl] at hk;cases hk;exact e
  ·rw [List.getElem?_set_ne c] at hk;exact hc.2 k q hk
theorem fN {p h:Nat} (e:zL f hs p=some h):h<hs.length:=(jV e).1
def VOK (v:Nat→List Prt):Prop:=∀ h,(∃ ts,zD (v h)=some ts)∧(h<hs.length→isSev (hkind hs h)=false→(∃ t,zD (v h)=some [t])∧mayB (hkind hs h) (zT (v h) 0)=true)
theorem zXm {uf:List Nat} (hf:zD f=some uf) {us:List Nat} (hl:zD l=some us) (v:Nat→List Prt) (hv:VOK hs v):∀ n,(∀ p i σ,p<f.length→2*(zB f p-p)≤n→i<l.length→sevOf f hs p=none→Con l hs v σ→iPart f hs v n p=piece l i (zB l i)→∃ τ,τ∈aPart f l hs n p i σ∧Con l hs v τ) ∧
  (∀ p pend i stop σ K,pend≤f.length→advT f K p pend=some pend→2*(pend-p)+1≤n→i≤stop→stop≤l.length→Con l hs v σ→iKids f hs v n p pend=piece l i stop→∃ τ,τ∈aKids f l hs n p pend i stop σ∧Con l hs v τ)
 | 0=>⟨(fun p i σ hp hn=>by have:=(zP hf hp).1;omega),(fun _ _ _ _ _ _ _ _ h=>by omega)⟩
 | n+1=>by
  obtain ⟨h1,h2⟩:=zXm hf hl v hv n;have hrow:=zKv f hs v (fun h=>(hv h).1);constructor
  ·intro p i σ hp hn hi hsv hc h;have hg:=zP hl hi;have hgf:=zP hf hp;rw [iPart] at h;rw [aPart];rcases jW f hs p with ⟨k,e1,e2,e3⟩ | ⟨k,e1,_⟩ | ⟨e1,e2,e3⟩
   ·rw [e2] at h;rw [e1];simp only [] at h ⊢;have hk:=fN f hs e2;have h3:=(hv k).2 hk (zDf f hs e1).1;have hkind:zT l i=zT (v k) 0:=by
     rw [h,fM hg.1 hg.2];unfold zT;rw [gE hi];rfl
    rw [hkind,iP h3.2];obtain ⟨τ,t1,t2⟩:=hc.bind l hs hk h.symm;rw [t1];exact ⟨τ,by simp,t2⟩
   ·rw [hsv] at e1;cases e1
   ·rw [e2,gE hp] at h;rw [e1];simp only [] at h ⊢;rw [fM hg.1 hg.2] at h;simp only [List.cons.injEq] at h;obtain ⟨h3,h4⟩:=h;have ha:alikeP f l p i=true:=by
     unfold alikeP;rw [gE hp,gE hi];simp [← h3]
    rw [iP ha];obtain ⟨q,_,hq⟩:=xF hf hp;exact h2 _ _ _ _ _ q hgf.2 hq (by omega) (by omega) hg.2 hc h4
  ·intro p pend i stop σ K hpe hK hn hi hst hc h;rw [iKids] at h;rw [aKids];split at h
   ·rename_i hp;rw [iP hp,iP (zUb hi hst h.symm)];exact ⟨σ,by simp,hc⟩
   ·rename_i hp;rw [iN hp];obtain ⟨hlt,J,_,hJ⟩:=yZ hK hp;have hle:=yY hf _ _ _ _ hpe hJ;have hgf:=zP hf (show p<f.length by omega);obtain ⟨g1,g2,g3⟩:=zQr hi hst h.symm;have hd:l.drop i=iPart f hs v n p++l.drop (i+(iPart f hs v n p).length):=by
     have:=zBr (l:=l) (show i≤i+(iPart f hs v n p).length by omega);rw [g1] at this;exact this
    obtain ⟨ts,ht,ht1⟩:=(hrow n).1 p;have hone:ts.length=1→sevOf f hs p=none→∃ τ,τ∈(if i<stop then (aPart f l hs n p i σ).flatMap (aKids f l hs n (zB f p) pend (zB l i) stop) else [])∧Con l hs v τ:=by
     intro hts hsv;match ts,hts,ht with
     | [t],_,ht =>
      have hs1:=zU ht;have ht0:=hs1.2.2 t (by simp);have hs2:=hs1.1;simp at hs2;have hil:i<l.length:=by omega
      have hend:zB l i=i+(iPart f hs v n p).length:=by
       have:=zDg hl ht hd (x:=0) (by omega);rw [Nat.add_zero] at this;rw [this];unfold zB;rw [List.drop_zero,yW ht];omega
      rw [iP (by omega)];obtain ⟨τ,t1,t2⟩:=h1 p i σ (by omega) (by omega) hil hsv hc (by rw [hend,g1]);obtain ⟨υ,u1,u2⟩:=h2 (zB f p) pend (zB l i) stop τ J hpe hJ (by omega) (by omega) hst t2 (by rw [hend,g2]);exact ⟨υ,List.mem_flatMap.2 ⟨τ,t1,u1⟩,u2⟩
    rcases jW f hs p with ⟨k,e1,e2,e3⟩ | ⟨k,e3,e2,e1⟩ | ⟨e1,e2,e3⟩
    ·rw [e3];refine hone ?_ e3;have h3:=(hv k).2 (fN f hs e2) (zDf f hs e1).1;obtain ⟨n',rfl⟩:∃ n',n=n'+1:=⟨n-1,by omega⟩;rw [iPart,e2] at ht;simp only [] at ht;obtain ⟨t,h4⟩:=h3.1;rw [h4] at ht;cases ht;rfl
    ·rw [e3];obtain ⟨n',rfl⟩:∃ n',n=n'+1:=⟨n-1,by omega⟩;have e4:iPart f hs v (n'+1) p=v k:=by rw [iPart,e2]
     rw [e4] at g1 g2 g3 hd ht;obtain ⟨τ,t1,t2⟩:=hc.bind l hs (fN f hs e2) g1;obtain ⟨υ,u1,u2⟩:=h2 (zB f p) pend (i+(v k).length) stop τ J hpe hJ (by omega) g3 hst t2 g2.symm;refine ⟨υ,?_,u2⟩;simp only [List.mem_flatMap,Option.mem_toList];have hrow:=zKt hl hst ts (v k) _ i ht hd g3;obtain ⟨ks,hks⟩:=(zKv f hs v (fun h=>(hv h).1) (n'+1)).2 (zB f p) pend;have hk2:=zKt hl hst ks (iKids f hs v (n'+1) (zB f p) pend) (l.drop stop) (i+(v k).length) hks (by rw [← g2];exact zBr g3) (by rw [← g2,vW g3 hst];omega);rw [← g2,vW g3 hst,show i+(v k).length+(stop-(i+(v k).length))=stop by omega] at hk2;have hus2:advT l (ts.length+ks.length) i stop=some stop:=by rw [zAw,hrow,Option.bind_some];exact hk2
     exact ⟨i+(v k).length,(fK hl hst _ _ _ _ hus2 (by omega)).2 ⟨_,hrow⟩,τ,t1,u1⟩
    ·rw [e3];exact hone (ht1 e2 (by omega) (by omega)) e3
end
def shift (d:Nat) (σ:MSt):MSt:=σ.map fun o=>o.map fun q=>(q.1+d,q.2+d)
theorem zUd (d:Nat) (σ:MSt) (h:Nat):(shift d σ)[h]?=σ[h]?.map fun o=>o.map fun q=>(q.1+d,q.2+d):=by unfold shift;rw [List.getElem?_map]
structure Sits (P l:List Prt) (d:Nat):Prop where
 rP:∃ us,zD P=some us
 rL:∃ us,zD l=some us
 dr:∃ R,l.drop d=P++R
theorem Sits.len {P l:List Prt} {d:Nat} (h:Sits P l d):d+P.length≤l.length∨P=[]:=by
 obtain ⟨R,hR⟩:=h.dr;have:=congrArg List.length hR;rw [List.length_drop,lA] at this;rcases Nat.eq_zero_or_pos P.length with e | e
 ·exact Or.inr (List.length_eq_zero_iff.1 e)
 ·left;omega
theorem Sits.end_ {P l:List Prt} {d:Nat} (h:Sits P l d) {x:Nat} (hx:x<P.length):zB l (x+d)=zB P x+d:=by
 obtain ⟨us,hl⟩:=h.rL;obtain ⟨vs,hP⟩:=h.rP;obtain ⟨R,hR⟩:=h.dr;have:=zDg hl hP hR hx;rw [show x+d=d+x by omega,this];omega
theorem Sits.get {P l:List Prt} {d:Nat} (h:Sits P l d) {x:Nat} (hx:x<P.length):l[x+d]?=P[x]?:=by
 obtain ⟨R,hR⟩:=h.dr;have:(l.drop d)[x]?=P[x]?:=by rw [hR,List.getElem?_append_left hx]
 rw [List.getElem?_drop] at this;rw [show x+d=d+x by omega];exact this
theorem Sits.pc {P l:List Prt} {d:Nat} (h:Sits P l d) {a b:Nat} (hb:b≤P.length):piece l (a+d) (b+d)=piece P a b:=by
 obtain ⟨R,hR⟩:=h.dr;unfold piece;rw [show b+d-(a+d)=b-a by omega,show a+d=d+a by omega,← List.drop_drop,hR];by_cases c:a≤P.length
 ·rw [List.drop_append_of_le_length c,List.take_append_of_le_length (by rw [List.length_drop];omega)]
 ·rw [show b-a=0 by omega,List.take_zero,List.take_zero]
theorem Sits.bind {P l:List Prt} {d:Nat} (hS:Sits P l d) {σ:MSt} (hσ:∀ (h:Nat) (q:Nat×Nat),σ[h]?=some (some q)→q.2≤P.length) {h a b:Nat} (hb:b≤P.length):bindS l (shift d σ) h (a+d) (b+d)=(bindS P σ h a b).map (shift d):=by
 unfold bindS;rw [zUd];cases hq:σ[h]? with
 | none=>rfl
 | some o =>
  cases o with
  | none =>
   simp only [Option.map_some,Option.map_none,Option.some.injEq];unfold shift;rw [List.map_set];rfl
  | some q =>
   simp only [Option.map_some];rw [hS.pc hb,hS.pc (hσ h q hq)];split <;> rfl
theorem zNg {l:List Prt} {us:List Nat} (hl:zD l=some us) {stop:Nat} (hs:stop≤l.length):∀ (m m' a K:Nat),advT l K a stop=some stop→stop-a<m→stop-a<m'→tosL l m a stop=tosL l m' a stop
 | 0,m',a,K,_,h,_=>by omega
 | m+1,0,a,K,_,_,h=>by omega
 | m+1,m'+1,a,K,hK,h1,h2=>by
  rw [tosL,tosL]
  congr 1
  split
  ·rfl
  ·rename_i hne;obtain ⟨hlt,J,rfl,hJ⟩:=yZ hK hne;have:=(zP hl (show a<l.length by omega)).1;exact zNg hl hs m m' _ J hJ (by omega) (by omega)
theorem Sits.tos {P l:List Prt} {d:Nat} (hS:Sits P l d) {stop:Nat} (hs:stop≤P.length):∀ (m a K:Nat),advT P K a stop=some stop→tosL l m (a+d) (stop+d)=(tosL P m a stop).map (·+d)
 | 0,a,K,_=>by rw [tosL,tosL];rfl
 | m+1,a,K,hK=>by
  rw [tosL,tosL,List.map_cons]
  congr 1
  by_cases c:a=stop
  ·rw [iP c,iP (by omega)];rfl
  ·rw [iN c,iN (by omega)];obtain ⟨hlt,J,rfl,hJ⟩:=yZ hK c;rw [hS.end_ (by omega)];exact hS.tos hs m _ J hJ
section
variable (f:List Prt) (hs:List Hl)
def In (P:List Prt) (σ:MSt):Prop:=∀ (h:Nat) (q:Nat×Nat),σ[h]?=some (some q)→q.2≤P.length
theorem In.bind {P:List Prt} {σ τ:MSt} (hi:In P σ) {h a b:Nat} (hb:b≤P.length) (e:bindS P σ h a b=some τ):In P τ:=by
 intro k q hq;by_cases c:k=h
 ·subst c;obtain ⟨_,q',q1,_,q3 | ⟨_,rfl,_⟩⟩:=vF P e
  ·rw [hq] at q1;cases q1;exact hi k q q3
  ·rw [hq] at q1;cases q1;exact hb
 ·rw [zDd P e c] at hq;exact hi k q hq
theorem a_in {P:List Prt} {us:List Nat} (hl:zD P=some us):∀ n,(∀ p i σ τ,i<P.length→In P σ→τ∈aPart f P hs n p i σ→In P τ) ∧
  (∀ p pend i stop σ τ K,stop≤P.length→advT P K i stop=some stop→In P σ→τ∈aKids f P hs n p pend i stop σ→In P τ)
 | 0=>⟨(fun _ _ _ _ _ _ h=>by rw [aPart] at h;cases h),(fun _ _ _ _ _ _ _ _ _ _ h=>by rw [aKids] at h;cases h)⟩
 | n+1=>by
  obtain ⟨h1,h2⟩:=a_in hl n;constructor
  ·intro p i σ τ hi hin h;have hg:=zP hl hi;rw [aPart] at h;cases ho:oneOf f hs p with
   | some j =>
    rw [ho] at h;simp only [] at h;split at h
    ·rw [Option.mem_toList] at h;exact hin.bind hg.2 h
    ·cases h
   | none =>
    rw [ho] at h;simp only [] at h;split at h
    ·obtain ⟨q,_,hq⟩:=xF hl hi;exact h2 _ _ _ _ _ _ q hg.2 hq hin h
    ·cases h
  ·intro p pend i stop σ τ K hst hK hin h;rw [aKids] at h;split at h
   ·split at h
    ·simp at h;subst h;exact hin
    ·cases h
   ·cases ho:sevOf f hs p with
    | some k =>
     rw [ho] at h;simp only [List.mem_flatMap,Option.mem_toList] at h;obtain ⟨tx,hto,υ,g1,g2⟩:=h;obtain ⟨m,hm⟩:=(fK hl hst _ _ K tx hK (by omega)).1 hto;obtain ⟨r1,r2,r3⟩:=jB hl hst hK hm;exact h2 _ _ _ _ _ _ _ hst r3 (hin.bind (by omega) g1) g2
    | none =>
     rw [ho] at h;simp only [] at h;split at h
     ·simp only [List.mem_flatMap] at h;obtain ⟨υ,g1,g2⟩:=h;obtain ⟨_,J,_,hJ⟩:=yZ hK (show i≠stop by omega);exact h2 _ _ _ _ _ _ J hst hJ (h1 _ _ _ _ (by omega) hin g1) g2
     ·cases h
theorem zFd {β:Type} (o:Option MSt) (g:MSt→MSt) (F:MSt→List β):(o.map g).toList.flatMap F=o.toList.flatMap fun x=>F (g x):=by cases o <;> rfl
theorem zAf {α:Type} (g:MSt→MSt) (F:α→List MSt) (G:α→List MSt):∀ xs:List α,(∀ x∈xs,F x=(G x).map g)→xs.flatMap F=(xs.flatMap G).map g
 | [],_=>rfl
 | x::xs,h=>by
  rw [List.flatMap_cons,List.flatMap_cons,List.map_append,h x (by simp),zAf g F G xs (fun y hy=>h y (by simp [hy]))]
theorem zTc {P l:List Prt} {d:Nat} (hS:Sits P l d):∀ n,(∀ p i σ,i<P.length→In P σ→aPart f l hs n p (i+d) (shift d σ)=(aPart f P hs n p i σ).map (shift d)) ∧
  (∀ p pend i stop σ K,stop≤P.length→advT P K i stop=some stop→In P σ→aKids f l hs n p pend (i+d) (stop+d) (shift d σ)=(aKids f P hs n p pend i stop σ).map (shift d))
 | 0=>⟨(fun _ _ _ _ _=>by rw [aPart,aPart];rfl),(fun _ _ _ _ _ _ _ _ _=>by rw [aKids,aKids];rfl)⟩
 | n+1=>by
  obtain ⟨h1,h2⟩:=zTc hS n;obtain ⟨vs,hP⟩:=hS.rP;obtain ⟨us,hl⟩:=hS.rL;constructor
  ·intro p i σ hi hin;have hg:=zP hP hi;rw [aPart,aPart];have hk:zT l (i+d)=zT P i:=by unfold zT;rw [hS.get hi]
   cases ho:oneOf f hs p with
   | some j =>
    simp only [];rw [hk];split
    ·rw [hS.end_ hi,hS.bind hin hg.2];cases bindS P σ j i (zB P i) <;> rfl
    ·rfl
   | none =>
    simp only [];have ha:alikeP f l p (i+d)=alikeP f P p i:=by unfold alikeP;rw [hS.get hi]
    rw [ha];split
    ·obtain ⟨q,_,hq⟩:=xF hP hi;rw [hS.end_ hi,show i+d+1=i+1+d by omega];exact h2 _ _ _ _ _ q hg.2 hq hin
    ·rfl
  ·intro p pend i stop σ K hst hK hin;rw [aKids,aKids];by_cases hp:p=pend
   ·rw [iP hp,iP hp];by_cases c:i=stop
    ·rw [iP c,iP (by omega)];rfl
    ·rw [iN c,iN (by omega)];rfl
   ·rw [iN hp,iN hp];cases ho:sevOf f hs p with
    | some k =>
     simp only [];have hlen:=hS.len;have hle:=yY hP _ _ _ _ hst hK;have ht1:tosL l (l.length+1) (i+d) (stop+d)=(tosL P (P.length+1) i stop).map (·+d):=by
      rcases hlen with hlen | hlen
      ·rw [hS.tos hst _ _ K hK]
       congr 1
       exact zNg hP hst _ _ _ K hK (by omega) (by omega)
      ·subst hlen;simp at hst;subst hst;obtain rfl:i=0:=by omega
       rw [tosL,tosL];simp
     rw [ht1,List.flatMap_map];refine zAf _ _ _ _ fun tx hto=>?_;obtain ⟨m,hm⟩:=(fK hP hst _ _ K tx hK (by omega)).1 hto;obtain ⟨r1,r2,r3⟩:=jB hP hst hK hm;rw [hS.bind hin (by omega),zFd];cases hb:bindS P σ k i tx with
     | none=>rfl
     | some υ =>
      simp only [Option.toList_some,List.flatMap_cons,List.flatMap_nil,List.append_nil];exact h2 _ _ _ _ _ _ hst r3 (hin.bind (by omega) hb)
    | none =>
     simp only [];by_cases c:i<stop
     ·rw [iP c,iP (by omega),h1 _ _ _ (by omega) hin,List.flatMap_map,hS.end_ (by omega)];obtain ⟨_,J,_,hJ⟩:=yZ hK (show i≠stop by omega);refine zAf _ _ _ _ fun υ hυ=>?_;exact h2 _ _ _ _ _ J hst hJ ((a_in f hs hP n).1 _ _ _ _ (by omega) hin hυ)
     ·rw [iN c,iN (by omega)];rfl
end
theorem xP.bare2 {f:List Prt} {hs:List Hl} (H:xP f hs) {p h:Nat} (hp:p<f.length) (ho:zL f hs p=some h) {q:Nat} (hpq:p<q) (hq:q<zB f p):zL f hs q=none:=by
 have hf:=zJ H.well;obtain ⟨hh,e⟩:=jV ho;rcases xN e with ⟨a1,a2,a3,a4,a5⟩ | ⟨a1,a2,a5⟩
 ·have h1:=zCh hf hp (H.stmt p hp a4);have h2:=zGe hf a3 (H.leaf _ a3 (zR a5).1);obtain rfl:q=p+1:=by omega
  cases hv:zL f hs (p+1) with
  | none=>rfl
  | some j =>
   exfalso;obtain ⟨hj,e2⟩:=jV hv;rcases xN e2 with ⟨b1,b2,b3,b4,b5⟩ | ⟨b1,b2,b5⟩
   ·have:=(zR a5).1;omega
   ·have:=H.uniq h j hh hj (by rw [← (zR a5).2,← (zR b5).2]);subst this;rw [a1] at b1;cases b1
 ·have h2:=zGe hf hp (H.leaf _ hp (zR a5).1);omega
section
variable (f l:List Prt) (hs:List Hl)
theorem yCi (H:xP f hs):∀ n,(∀ p i σ τ,p<f.length→sevOf f hs p=none→τ∈aPart f l hs n p i σ→∀ q h,p≤q→q<zB f p→zL f hs q=some h→MBnd τ h) ∧
  (∀ p pend i stop σ τ K,pend≤f.length→advT f K p pend=some pend→τ∈aKids f l hs n p pend i stop σ→∀ q h,p≤q→q<pend→zL f hs q=some h→MBnd τ h)
 | 0=>⟨(fun _ _ _ _ _ _ h=>by rw [aPart] at h;cases h),(fun _ _ _ _ _ _ _ _ _ h=>by rw [aKids] at h;cases h)⟩
 | n+1=>by
  obtain ⟨h1,h2⟩:=yCi H n;have hf:=zJ H.well;constructor
  ·intro p i σ τ hp hsv h q k hpq hq hk;rw [aPart] at h;rcases jW f hs p with ⟨j,e1,e2,e3⟩ | ⟨j,e1,_⟩ | ⟨e1,e2,e3⟩
   ·rw [e1] at h;simp only [] at h;split at h
    ·rw [Option.mem_toList] at h;rcases Nat.lt_or_ge p q with c | c
     ·rw [H.bare2 hp e2 c hq] at hk;cases hk
     ·obtain rfl:p=q:=by omega
      rw [e2] at hk;cases hk;obtain ⟨_,x,q1,_⟩:=vF l h;exact ⟨x,q1⟩
    ·cases h
   ·rw [hsv] at e1;cases e1
   ·rw [e1] at h;simp only [] at h;split at h
    ·rcases Nat.lt_or_ge p q with c | c
     ·obtain ⟨x,_,hx⟩:=xF hf hp;exact h2 _ _ _ _ _ _ x (zP hf hp).2 hx h q k (by omega) hq hk
     ·obtain rfl:p=q:=by omega
      rw [e2] at hk;cases hk
    ·cases h
  ·intro p pend i stop σ τ K hpe hK h q k hpq hq hk;rw [aKids] at h;split at h
   ·omega
   ·rename_i hp;obtain ⟨hlt,J,_,hJ⟩:=yZ hK hp;have hle:=yY hf _ _ _ _ hpe hJ;have hg:=zP hf (show p<f.length by omega);cases ho:sevOf f hs p with
    | some j =>
     rw [ho] at h;simp only [List.mem_flatMap,Option.mem_toList] at h;obtain ⟨tx,hto,υ,g1,g2⟩:=h;rcases Nat.lt_or_ge q (zB f p) with c | c
     ·rcases Nat.lt_or_ge p q with c2 | c2
      ·rw [H.bare2 (by omega) (gV f hs ho).2 c2 c] at hk;cases hk
      ·obtain rfl:p=q:=by omega
       rw [(gV f hs ho).2] at hk;cases hk;obtain ⟨_,x,q1,_⟩:=vF l g1;exact MBnd.ext ⟨x,q1⟩ ((zGc f l hs n).2 _ _ _ _ _ _ g2)
     ·exact h2 _ _ _ _ _ _ J hpe hJ g2 q k c hq hk
    | none =>
     rw [ho] at h;simp only [] at h;split at h
     ·simp only [List.mem_flatMap] at h;obtain ⟨υ,g1,g2⟩:=h;rcases Nat.lt_or_ge q (zB f p) with c | c
      ·exact (h1 _ _ _ _ (by omega) ho g1 q k hpq c hk).ext ((zGc f l hs n).2 _ _ _ _ _ _ g2)
      ·exact h2 _ _ _ _ _ _ J hpe hJ g2 q k c hq hk
     ·cases h
def Good1 (lo hi:Nat) (h:Nat) (q:Nat×Nat):Prop:=lo≤q.1∧q.1≤q.2∧q.2≤hi∧(∃ K,advT l K q.1 q.2=some q.2)∧(isSev (hkind hs h)=false→q.1<l.length∧zB l q.1=q.2∧mayB (hkind hs h) (zT l q.1)=true)
theorem Good1.wide {lo hi lo' hi' h:Nat} {q:Nat×Nat} (g:Good1 l hs lo hi h q) (h1:lo'≤lo) (h2:hi≤hi'):Good1 l hs lo' hi' h q:=⟨Nat.le_trans h1 g.1,g.2.1,Nat.le_trans g.2.2.1 h2,g.2.2.2⟩
theorem zXn {us:List Nat} (hl:zD l=some us):∀ n,(∀ p i σ τ,i<l.length→sevOf f hs p=none→τ∈aPart f l hs n p i σ→∀ (h:Nat) (q:Nat×Nat),τ[h]?=some (some q)→σ[h]?=some (some q)∨Good1 l hs i (zB l i) h q) ∧
  (∀ p pend i stop σ τ K,stop≤l.length→advT l K i stop=some stop→τ∈aKids f l hs n p pend i stop σ→∀ (h:Nat) (q:Nat×Nat),τ[h]?=some (some q)→σ[h]?=some (some q)∨Good1 l hs i stop h q)
 | 0=>⟨(fun _ _ _ _ _ _ h=>by rw [aPart] at h;cases h),(fun _ _ _ _ _ _ _ _ _ h=>by rw [aKids] at h;cases h)⟩
 | n+1=>by
  obtain ⟨h1,h2⟩:=zXn hl n;constructor
  ·intro p i σ τ hi hsv h k q hq;have hg:=zP hl hi;rw [aPart] at h;cases ho:oneOf f hs p with
   | some j =>
    rw [ho] at h;simp only [] at h;split at h
    ·rename_i hmay;rw [Option.mem_toList] at h;by_cases hne:k=j
     ·subst hne;obtain ⟨_,q',q1,_,q3 | ⟨_,q3,_⟩⟩:=vF l h
      ·rw [hq] at q1;cases q1;exact Or.inl q3
      ·rw [hq] at q1;cases q1;right;subst q3;exact ⟨nR _,by show i≤zB l i;omega,nR _,⟨1,by rw [advT,iP hg.1,advT]⟩,fun _=>⟨hi,rfl,hmay⟩⟩
     ·rw [zDd l h hne] at hq;exact Or.inl hq
    ·cases h
   | none =>
    rw [ho] at h;simp only [] at h;split at h
    ·obtain ⟨b,hbk,hb⟩:=xF hl hi;rcases h2 _ _ _ _ _ _ b hg.2 hb h k q hq with g | g
     ·exact Or.inl g
     ·exact Or.inr (g.wide l hs (by omega) (by omega))
    ·cases h
  ·intro p pend i stop σ τ M hst hM h k q hq;rw [aKids] at h;split at h
   ·split at h
    ·simp at h;subst h;exact Or.inl hq
    ·cases h
   ·cases ho:sevOf f hs p with
    | some j =>
     rw [ho] at h;simp only [List.mem_flatMap,Option.mem_toList] at h;obtain ⟨tx,hto,υ,g1,g2⟩:=h;obtain ⟨m,hm2⟩:=(fK hl hst _ _ M tx hM (by omega)).1 hto;obtain ⟨r1,r2,r3⟩:=jB hl hst hM hm2;have hle:=yY hl _ _ _ _ hst hm2;rcases h2 _ _ _ _ _ _ (M-m) hst r3 g2 k q hq with g3 | g3
     ·by_cases hne:k=j
      ·subst hne;obtain ⟨_,q',q1,_,q3 | ⟨_,q3,_⟩⟩:=vF l g1
       ·rw [g3] at q1;cases q1;exact Or.inl q3
       ·rw [g3] at q1;cases q1;right;subst q3;refine ⟨nR _,by show i≤tx;omega,r2,⟨m,zGd hl _ _ _ _ hst hm2 r2⟩,fun e=>?_⟩;rw [(gV f hs ho).1] at e;cases e
      ·rw [zDd l g1 hne] at g3;exact Or.inl g3
     ·exact Or.inr (g3.wide l hs (by omega) (nR _))
    | none =>
     rw [ho] at h;simp only [] at h;split at h
     ·rename_i hi;simp only [List.mem_flatMap] at h;obtain ⟨υ,g1,g2⟩:=h;obtain ⟨_,M',e,hM'⟩:=yZ hM (show i≠stop by omega);have hg:=zP hl (show i<l.length by omega);have hle:=yY hl _ _ _ _ hst hM';rcases h2 _ _ _ _ _ _ M' hst hM' g2 k q hq with g3 | g3
      ·rcases h1 _ _ _ _ (by omega) ho g1 k q g3 with g4 | g4
       ·exact Or.inl g4
       ·exact Or.inr (g4.wide l hs (nR _) (by omega))
      ·exact Or.inr (g3.wide l hs (by omega) (nR _))
     ·cases h
theorem zXo {i:Nat}:∀ {k u:Nat},upI l i k=(u:Int)→u<k∧i<zB l u∧∀ j,u<j→j<k→zB l j≤i
 | 0,u,h=>by rw [upI] at h;omega
 | k+1,u,h=>by
  rw [upI] at h;split at h
  ·rename_i hc;obtain rfl:k=u:=by omega
   exact ⟨by omega,hc,fun j h1 h2=>by omega⟩
  ·rename_i hc;obtain ⟨h1,h2,h3⟩:=zXo h;refine ⟨by omega,h2,fun j g1 g2=>?_⟩;by_cases e:j=k
   ·subst e;omega
   ·exact h3 j g1 (by omega)
theorem xP.place_at {f:List Prt} {hs:List Hl} (H:xP f hs) {h:Nat} (hh:h<hs.length) {p:Nat} (hp:p<f.length) (hpl:xQ f[p] hs[h]=true):∃ q,q<f.length∧zL f hs q=some h:=by
 have hpo:=H.plc h hh p hp hpl;by_cases c:xO (hs[h]).2=true
 ·have hu:kindI f (upN f p)=some 50:=by
   unfold xZ at hpo;unfold xO at c;simp at c;rcases c with c | c
   ·rw [iP c] at hpo;simpa using hpo
   ·rw [iN (by omega),iP c] at hpo;simp at hpo;exact hpo.1
  unfold kindI at hu;split at hu
  ·cases hu
  ·rename_i hneg;obtain ⟨u,hue⟩:∃ u:Nat,upN f p=(u:Int):=⟨(upN f p).toNat,by omega⟩;rw [hue] at hu;simp only [Int.toNat_natCast,Option.map_eq_some_iff] at hu;obtain ⟨a,ha,hk⟩:=hu;obtain ⟨h1,rfl⟩:=List.getElem?_eq_some_iff.1 ha;have hf:=zJ H.well;obtain ⟨g1,g2,g3⟩:=zXo f hue;obtain ⟨k1,k2⟩:=zCh hf h1 (H.stmt u h1 hk);have hpu:p=u+1:=by
    rcases Nat.lt_or_ge (u+1) p with c3 | c3
    ·have:=g3 (u+1) (by omega) c3;omega
    ·omega
   subst hpu;refine ⟨u,h1,H.stands hh ?_⟩;unfold zW;have:=zR hpl;rw [iP c,gE h1,gE k1];simp [hk,this.1,this.2]
 ·refine ⟨p,hp,H.stands hh ?_⟩;unfold zW;have:=zR hpl;rw [iN c,gE hp];simp [this.1,this.2]
end
end Go.Proofs.YtbjkdmbcpkopjaaGreatDoor
