/- A region whose first operation is a mere move that only the last store uses, whose next operations read, and whose tail is forced: 'x.f = append(x.f, ..)'. It goes in the written order. -/
import Derived.Test.YtfalelkfhandfaaGreatDoorProg
import Derived.StillTailTactics
import Derived.Outline
namespace Go.Proofs.YtfalelkfhandfaaGreatDoor
set_option linter.all false
open Go

section
variable {P:Program} {ops:Array Oper} {md:Region.Mode} {w:World}

def sinkF (md:Region.Mode) (ops:Array Oper) (n sk:Nat):Bool :=
 (List.range n).all fun i=>i == sk || (List.range (n+1)).any fun j=>decide (i<j)&&Region.waitsFor md ops j i

theorem zCt {n sk:Nat} {listed:Array Bool} (hs:sinkF md ops n sk=true) (hc:Region.chainB md ops n=true) (hn:n<ops.size) (inv:HeadInv md ops n listed) (hsk:listed.getD sk false=true) :
  ∀ (d i:Nat),n-i=d→i<n→listed.getD i true=false→∀ t,n≤t→t∉Region.ready md ops listed:=by
 intro d
 induction d using Nat.strongRecOn with
 | _ d ih =>
  intro i hd hi hun t ht hr
  obtain ⟨_,ot,hot,hall⟩:=mem_ready.1 hr
  have htlt:t<ops.size:=(Array.getElem?_eq_some_iff.1 hot).1
  by_cases htn:t=n
  ·subst htn
   have h1:=List.all_eq_true.1 hs i (List.mem_range.2 hi)
   simp only [Bool.or_eq_true,beq_iff_eq] at h1
   rcases h1 with h1 | h1
   ·subst h1
    rw [getD_both hun] at hsk
    cases hsk
   obtain ⟨j,hj,hj2⟩:=List.any_eq_true.1 h1
   simp only [Bool.and_eq_true,decide_eq_true_eq] at hj2
   obtain ⟨oj,hoj,e,he,hb,hon⟩:=Region.waitsFor_spec hj2.2
   have hjle:j≤t:=by have:=List.mem_range.1 hj;omega
   by_cases hjt:j=t
   ·subst hjt
    have:oj=ot:=Option.some.inj (hoj.symm.trans hot)
    subst this
    have h2:=hall e he hb
    rw [hon,getD_both hun] at h2
    cases h2
   ·cases hl:listed.getD j false with
    | true =>
     have h2:=inv.closed j oj hoj hl e he hb
     rw [hon,getD_both hun] at h2
     cases h2
    | false =>
     have hjs:j<listed.size:=by rw [inv.size];omega
     exact ih (t-j) (by omega) j rfl (by omega) (getD_in hjs hl) t (Nat.le_refl _) hr
  ·have h1:=List.all_eq_true.1 hc t (List.mem_range.2 htlt)
   simp only [Bool.or_eq_true,decide_eq_true_eq] at h1
   rcases h1 with h1 | h1
   ·omega
   ·obtain ⟨o',ho',e,he,hb,hon⟩:=Region.waitsFor_spec h1
    have:o'=ot:=Option.some.inj (ho'.symm.trans hot)
    subst this
    have h2:=hall e he hb
    rw [hon,getD_both (inv.tail (t-1) (by omega) (by omega))] at h2
    cases h2

theorem zGb {n sk i:Nat} {oi:Oper} {v:Value} {L:Array Bool→Act→Prop} (hi:ops[i]?=some oi) (hsel:∀ (j:Nat) (o:Oper) cs b,ops[j]?=some o→o.op≠.select cs b)
  (hs:sinkF md ops n sk=true) (hc:Region.chainB md ops n=true) (hn:n<ops.size) (hin:i<n)
  (hdone:∀ listed a,L listed a→∀ j∈Region.ready md ops listed,n≤j) :
  ∀ (f:Nat) (listed:Array Bool) (a:Act),HeadInv md ops n listed→listed.getD sk false=true →
   (∀ j oj,ops[j]?=some oj→j≠i→listed.getD j true=false→(∀ e∈oj.after,Region.binds md e=true→e.on≠i)→oi.apart ops oj=true) →
   i∈Region.ready md ops listed→YieldsAt P ops w oi v a →
   wpAnyL P md ops w n L f (listed.setIfInBounds i true) (a.put oi.dst v)→wpAnyL P md ops w n L (f+1) listed a:=by
 intro f
 induction f with
 | zero =>
  intro listed a inv hsk _ hr hy H
  have hun:=(mem_ready.1 hr).1
  refine ⟨fun h=>(by rw [h] at hr;cases hr),fun j hj=>?_⟩
  have hjn:j<n:=by
   rcases Nat.lt_or_ge j n with h | h
   ·exact h
   ·exact absurd hj (zCt hs hc hn inv hsk _ i rfl hin hun j h)
  refine ⟨hjn,?_⟩
  by_cases hji:j=i
  ·subst hji;exact hy.stOp hi H
  ·have:=hdone _ _ H j (ready_mono hj hji)
   omega
 | succ f ih =>
  intro listed a inv hsk hfree hr hy H
  have hun:=(mem_ready.1 hr).1
  refine ⟨fun h=>(by rw [h] at hr;cases hr),fun j hj=>?_⟩
  have hjn:j<n:=by
   rcases Nat.lt_or_ge j n with h | h
   ·exact h
   ·exact absurd hj (zCt hs hc hn inv hsk _ i rfl hin hun j h)
  refine ⟨hjn,?_⟩
  by_cases hji:j=i
  ·subst hji;exact hy.stOp hi H
  ·have h1:=(H.2 j (ready_mono hj hji)).2
   obtain ⟨hjun,oj,hoj,hall⟩:=mem_ready.1 hj
   have hnot:∀ e∈oj.after,Region.binds md e=true→e.on≠i:=fun e he hb heq=>by
    have h1:=hall e he hb
    rw [heq,getD_both hun] at h1
    cases h1
   have h2:=stOp_put hoj (hfree j oj hoj hji hjun hnot) (fun cs b=>hsel i oi cs b hi) (fun cs b=>hsel j oj cs b hoj) hy h1
   have hfree':∀ k ok,ops[k]?=some ok→k≠i→(listed.setIfInBounds j true).getD k true=false →
     (∀ e∈ok.after,Region.binds md e=true→e.on≠i)→oi.apart ops ok=true:=fun k ok hk hki hun hno=>by
    refine hfree k ok hk hki ?_ hno
    by_cases hjk:j=k
    ·subst hjk;exact hjun
    ·rw [getD_set_ne true hjk] at hun;exact hun
   refine stOp_mono (fun a' h3=>ih (listed.setIfInBounds j true) a' (inv.set hj hjn) (getD_set_true hsk) hfree' (ready_mono hr (Ne.symm hji)) h3.1 ?_) h2
   rw [Array.setIfInBounds_comm _ _ hji]
   exact h3.2

theorem zCu {n sk g:Nat} {Lq:Act→Prop} (hsel:Region.noSelect ops=true) (hs:sinkF md ops n sk=true) (hc:Region.chainB md ops n=true) (hn:n<ops.size) :
  ∀ (l:List Oper) (k:Nat) (listed:Array Bool) (a:Act),(∀ j,j<l.length→l[j]?=ops[k+j]?)→k+l.length=n→HeadInv md ops n listed→listed.getD sk false=true →
  Region.lexHead md ops g l.length k listed=true→wpStill P ops w Lq l a →
  wpAnyL P md ops w n (fun listed' a'=>Region.seqB md ops g n listed'=true∧Lq a') l.length listed a
 | [],k,listed,a,_,hk,_,_,hB,h=>by
  have:k=n:=by simpa using hk
  subst this
  exact ⟨by simpa [Region.lexHead] using hB,h⟩
 | o::l,k,listed,a,hl,hk,inv,hsk,hB,h=>by
  have h0:ops[k]?=some o:=by simpa using (hl 0 (by simp)).symm
  simp only [List.length_cons,Region.lexHead,Bool.and_eq_true] at hB
  obtain ⟨⟨hr,hf⟩,hB'⟩:=hB
  have hkn:k<n:=by simp only [List.length_cons] at hk;omega
  have hr':k∈Region.ready md ops listed:=by simpa using hr
  have hst:stOp P ops w k (wpStill P ops w Lq l) a:=by unfold stOp;simp only [h0];exact h
  obtain ⟨v,hy,hK⟩:=yieldsAt_of_stOp h0 hst
  exact zGb h0 (Region.noSelect_spec hsel) hs hc hn hkn (fun listed' a' hL=>seqB_ready hL.1) l.length listed a inv hsk (Region.free_spec h0 hf) hr' hy
   (zCu hsel hs hc hn l (k+1) _ _ (fun j hj=>by have:=hl (j+1) (by simp;omega);simpa [Nat.add_assoc,Nat.add_comm 1 j] using this) (by simp only [List.length_cons] at hk;omega) (inv.set hr' hkn) (getD_set_true hsk) hB' hK)

def lexTailF (md:Region.Mode) (ops:Array Oper) (n:Nat):Bool :=
 Region.noSelect ops&&(decide (n+1<ops.size)&&(sinkF md ops (n+1) 0&&(Region.chainB md ops (n+1)&&((Region.ready md ops (Array.replicate ops.size false)).contains 0&&(Region.free md ops (Array.replicate ops.size false) 0 &&
  Region.lexHead md ops (ops.size-(n+1)) n 1 ((Array.replicate ops.size false).setIfInBounds 0 true))))))

theorem xA {id:Nat} {Q:Exit→Act→World→Prop} {a:Act} {w:World} {o0:Oper} {l:List Oper} (n:Nat) (v:Value) (hm:P.follows .mixedOrders=true) (hB:lexTailF .any (o0::l).toArray n=true)
  (hQ:∀ c a w,Q (.panic c) (a.put o0.dst v) w→Q (.panic c) a w) (hy:Yields P (o0::l).toArray o0 v a)
  (h:wpStill P (o0::l).toArray { w with drawn:=w.drawn+1 } (fun a'=>wpList P (o0::l).toArray Q (l.drop n) a' { w with drawn:=w.drawn+1 }) (l.take n) (a.put o0.dst v)):(Code.region id (o0::l).toArray true).wp P Q a w:=by
 simp only [lexTailF,Bool.and_eq_true,decide_eq_true_eq] at hB
 obtain ⟨hsel,hn,hs,hc,hr0,hf0,hlex⟩:=hB
 have hn':n+1<l.length+1:=by simpa using hn
 have htl:(l.take n).length=n:=by simp;omega
 have hdl:(l.drop n).length=(o0::l).toArray.size-(n+1):=by simp
 have inv0:HeadInv .any (o0::l).toArray (n+1) (Array.replicate (o0::l).toArray.size false) :=
  ⟨by simp,fun j oj _ hl=>(by rw [getD_replicate_false] at hl;cases hl),fun t _ ht=>getD_in (by simpa using ht) (getD_replicate_false _ _)⟩
 have hr0':0∈Region.ready .any (o0::l).toArray (Array.replicate (o0::l).toArray.size false):=by simpa using hr0
 have inv1:=inv0.set hr0' (Nat.succ_pos n)
 have hsk:((Array.replicate (o0::l).toArray.size false).setIfInBounds 0 true).getD 0 false=true:=by simp
 have H:=zCu (md:=.any) (sk:=0) (g:=(o0::l).toArray.size-(n+1)) hsel hs hc hn (l.take n) 1 _ (a.put o0.dst v) (fun j hj=>by
  have hj':j<n:=by rw [htl] at hj;exact hj
  rw [Nat.add_comm 1 j]
  simp [hj']) (by omega) inv1 hsk (by rw [htl];exact hlex) h
 refine wp_region_any hm ?_
 have h2:=wpAny_of_head (Q':=Q) (g:=(o0::l).toArray.size-(n+1)) (fun listed a' hL=>by
  have h3:=wpAny_of_seq (md:=.any) (Q':=Q) (l.drop n) (n+1) listed a' { w with drawn:=w.drawn+1 } (fun j=>by simp [List.getElem?_drop,Nat.add_right_comm]) (by rw [hdl];exact hL.1) hL.2
  rwa [hdl] at h3) _ _ _ H
 rw [htl] at h2
 have h4:=wpAny_take (i:=0) (oi:=o0) (v:=v) (Q:=Q) (by simp) hsel hf0 hr0 hQ hy h2
 rw [show n+((o0::l).toArray.size-(n+1))+1=(o0::l).toArray.size by omega] at h4
 exact h4
end
end Go.Proofs.YtfalelkfhandfaaGreatDoor
