/- A region that draws its order: a condition on the world that holds until the first of some operations (the stores) comes up. -/
import Derived.Test.YtmklemelgdilkaaGreatDoorCoreMk
import Derived.Deep.RegionHeld3
import Derived.Test.YtmklemelgdilkaaGreatDoorPackMk
import Derived.Test.YtmklemelgdilkaaGreatDoorInstWMk
namespace Go.Proofs.YtmklemelgdilkaaGreatDoor
set_option linter.all false
open Go

def noneYet (D:List Nat) (L:Array Bool):Bool:=D.all fun d=>L.getD d true == false
section
variable {P:Program} {ops:Array Oper} {Q:Exit→Act→World→Prop} {md:Region.Mode} {S:World→Prop} {D:List Nat}
def wpAnyU (P:Program) (md:Region.Mode) (ops:Array Oper) (Q:Exit→Act→World→Prop) (D:List Nat) (S:World→Prop):Nat→Array Bool→Act→World→Prop
 | 0,L,a,w=>Region.ready md ops L=[]∧Q .normal a w
 | n+1,L,a,w=>(Region.ready md ops L=[]→Q .normal a w) ∧
   ∀ i∈Region.ready md ops L,wpOp P ops Q i (fun a' w'=>(noneYet D (L.setIfInBounds i true)=true→S w')∧wpAnyU P md ops Q D S n (L.setIfInBounds i true) a' w') a w
theorem wpAnyU.any:∀ (n:Nat) (L:Array Bool) (a:Act) (w:World),wpAnyU P md ops Q D S n L a w→wpAny P md ops Q n L a w
 | 0,_,_,_,h=>h
 | n+1,_,_,_,h=>⟨h.1,fun i hi=>wpOp_mono (fun a' w' h'=>wpAnyU.any n _ a' w' h'.2) (h.2 i hi)⟩
theorem unl_set {L:Array Bool} {i n:Nat} (h:n≠i):(L.setIfInBounds i true).getD n true=L.getD n true:=getD_set_ne true (Ne.symm h)
def waitN (md:Region.Mode) (ops:Array Oper) (i:Nat) (N:List Nat):Bool:=N.all fun n=>n != i&&(match ops[n]? with
 | some o=>o.after.any fun e=>Region.binds md e&&(e.on == i || N.contains e.on)
 | none=>false)
theorem waitN_ready {i:Nat} {N:List Nat} (h:waitN md ops i N=true) {L:Array Bool} (hi:L.getD i true=false) (hN:∀ n∈N,L.getD n true=false) {j:Nat} (hj:j∈Region.ready md ops L):j∉N:=by
 intro hm
 unfold waitN at h
 rw [List.all_eq_true] at h
 have hn:=h j hm
 obtain ⟨hjun,oj,hoj,hall⟩:=mem_ready.1 hj
 rw [hoj] at hn
 simp only [Bool.and_eq_true] at hn
 have ha:=hn.2
 rw [Array.any_eq_true'] at ha
 obtain ⟨e,he,hb⟩:=ha
 simp only [Bool.and_eq_true,Bool.or_eq_true,beq_iff_eq] at hb
 have hl:=hall e he hb.1
 rcases hb.2 with h2 | h2
 ·rw [h2] at hl
  rcases Nat.lt_or_ge i L.size with h' | h'
  ·simp [h'] at hi hl;rw [hi] at hl;cases hl
  ·simp [Array.getElem?_eq_none h'] at hi
 ·have h3:=hN e.on (by simpa using h2)
  rcases Nat.lt_or_ge e.on L.size with h' | h'
  ·simp [h'] at h3 hl;rw [h3] at hl;cases hl
  ·simp [Array.getElem?_eq_none h'] at h3
theorem none_set {N:List Nat} (hD:∀ d∈D,d∈N) {L:Array Bool} {i j:Nat} (hN:∀ n∈N,L.getD n true=false) (hi:i∉N) (hj:j∉N):noneYet D ((L.setIfInBounds i true).setIfInBounds j true)=true:=by
 unfold noneYet
 rw [List.all_eq_true]
 intro d hd
 have hdn:=hD d hd
 rw [unl_set (fun (e:d=j)=>hj (e ▸ hdn)),unl_set (fun (e:d=i)=>hi (e ▸ hdn)),hN d hdn]
 rfl
theorem wpAnyU_first {i:Nat} {oi:Oper} {v:Value} {N:List Nat} (hi:ops[i]?=some oi) (hsel:∀ (j:Nat) (o:Oper) cs b,ops[j]?=some o→o.op≠.select cs b)
  (hQ:∀ c a w,Q (.panic c) (a.put oi.dst v) w→Q (.panic c) a w) (hW:waitN md ops i N=true) (hD:∀ d∈D,d∈N) (hiN:i∉N) :
  ∀ (fuel:Nat) (L:Array Bool) (a:Act) (w:World),
   (∀ j oj,ops[j]?=some oj→j≠i→L.getD j true=false→(∀ e∈oj.after,Region.binds md e=true→e.on≠i)→oi.apart ops oj=true) →
   i∈Region.ready md ops L→YieldsIf P ops S oi v a→(∀ n∈N,L.getD n true=false)→S w →
   wpAnyU P md ops Q D S fuel (L.setIfInBounds i true) (a.put oi.dst v) w→wpAnyU P md ops Q D S (fuel+1) L a w:=by
 intro fuel
 induction fuel with
 | zero =>
  intro L a w _ hr hy hN hS H
  refine ⟨fun h=>(by rw [h] at hr;cases hr),fun j hj=>?_⟩
  by_cases hji:j=i
  ·subst hji;exact hy.wpOp hi hS ⟨fun _=>hS,H⟩
  ·have:=ready_mono hj hji
   rw [H.1] at this
   cases this
 | succ fuel ih =>
  intro L a w hfree hr hy hN hS H
  refine ⟨fun h=>(by rw [h] at hr;cases hr),fun j hj=>?_⟩
  by_cases hji:j=i
  ·subst hji;exact hy.wpOp hi hS ⟨fun _=>hS,H⟩
  ·have h1:=H.2 j (ready_mono hj hji)
   obtain ⟨hjun,oj,hoj,hall⟩:=mem_ready.1 hj
   have hiun:=(mem_ready.1 hr).1
   have hjN:=waitN_ready hW hiun hN hj
   have hnot:∀ e∈oj.after,Region.binds md e=true→e.on≠i:=fun e he hb heq=>by
    have h1:=hall e he hb
    rw [heq] at h1
    rcases Nat.lt_or_ge i L.size with h' | h'
    ·simp [h'] at hiun h1;rw [hiun] at h1;cases h1
    ·simp [Array.getElem?_eq_none h'] at h1
   have h2:=wpOp_putIf hoj (hfree j oj hoj hji hjun hnot) (fun cs b=>hsel i oi cs b hi) (fun cs b=>hsel j oj cs b hoj) hQ hy h1
   have hfree':∀ k ok,ops[k]?=some ok→k≠i→(L.setIfInBounds j true).getD k true=false→(∀ e∈ok.after,Region.binds md e=true→e.on≠i)→oi.apart ops ok=true:=fun k ok hk hki hun hno=>by
    refine hfree k ok hk hki ?_ hno
    by_cases hjk:j=k
    ·subst hjk;exact hjun
    ·rw [getD_set_ne true hjk] at hun;exact hun
   refine wpOp_mono (fun a' w' h3=>?_) h2
   have hS':S w':=h3.2.1 (none_set hD hN hiN hjN)
   refine ⟨fun _=>hS',ih (L.setIfInBounds j true) a' w' hfree' (ready_mono hr (Ne.symm hji)) h3.1 (fun n hn=>?_) hS' ?_⟩
   ·rw [unl_set (fun (e:n=j)=>hjN (e ▸ hn))];exact hN n hn
   ·rw [Array.setIfInBounds_comm _ _ hji]
    exact h3.2.2
theorem wpAnyU_take {i:Nat} {oi:Oper} {v:Value} {fuel:Nat} {L:Array Bool} {a:Act} {w:World} (N:List Nat) (hi:ops[i]?=some oi)
  (hW:(waitN md ops i N&&D.all (fun d=>N.contains d)&&noneYet N L)=true) (hs:Region.noSelect ops=true) (hf:Region.free md ops L i=true) (hr:(Region.ready md ops L).contains i=true)
  (hQ:∀ c a w,Q (.panic c) (a.put oi.dst v) w→Q (.panic c) a w) (hy:YieldsIf P ops S oi v a) (hS:S w)
  (h:wpAnyU P md ops Q D S fuel (L.setIfInBounds i true) (a.put oi.dst v) w):wpAnyU P md ops Q D S (fuel+1) L a w:=by
 simp only [Bool.and_eq_true] at hW
 obtain ⟨⟨h1,h2⟩,h3⟩:=hW
 refine wpAnyU_first (N:=N) hi (Region.noSelect_spec hs) hQ h1 (fun d hd=>?_) (fun hm=>?_) fuel L a w (Region.free_spec hi hf) (by simpa using hr) hy (fun n hn=>?_) hS h
 ·rw [List.all_eq_true] at h2
  simpa using h2 d hd
 ·unfold waitN at h1
  rw [List.all_eq_true] at h1
  have:=h1 i hm
  simp at this
 ·unfold noneYet at h3
  rw [List.all_eq_true] at h3
  simpa using h3 n hn
theorem none_skip {L:Array Bool} {i j:Nat} (hi:i∉D) (h:noneYet D (L.setIfInBounds j true)=true) (hji:j≠i):noneYet D ((L.setIfInBounds i true).setIfInBounds j true)=true:=by
 unfold noneYet at *
 rw [List.all_eq_true] at *
 intro d hd
 have h1:=h d hd
 rw [Array.setIfInBounds_comm _ _ (Ne.symm hji),unl_set (fun (e:d=i)=>hi (e ▸ hd))]
 exact h1
theorem wpAnyU_firstF {i:Nat} {oi:Oper} {v:Value} (hi:ops[i]?=some oi) (hsel:∀ (j:Nat) (o:Oper) cs b,ops[j]?=some o→o.op≠.select cs b)
  (hQ:∀ c a w,Q (.panic c) (a.put oi.dst v) w→Q (.panic c) a w) (hiD:i∉D) :
  ∀ (fuel:Nat) (L:Array Bool) (a:Act) (w:World),
   (∀ j oj,ops[j]?=some oj→j≠i→L.getD j true=false→(∀ e∈oj.after,Region.binds md e=true→e.on≠i)→oi.apart ops oj=true) →
   i∈Region.ready md ops L→YieldsIf P ops (fun _=>True) oi v a→(noneYet D (L.setIfInBounds i true)=true→S w) →
   wpAnyU P md ops Q D S fuel (L.setIfInBounds i true) (a.put oi.dst v) w→wpAnyU P md ops Q D S (fuel+1) L a w:=by
 intro fuel
 induction fuel with
 | zero =>
  intro L a w _ hr hy hS H
  refine ⟨fun h=>(by rw [h] at hr;cases hr),fun j hj=>?_⟩
  by_cases hji:j=i
  ·subst hji;exact hy.wpOp hi trivial ⟨hS,H⟩
  ·have:=ready_mono hj hji
   rw [H.1] at this
   cases this
 | succ fuel ih =>
  intro L a w hfree hr hy hS H
  refine ⟨fun h=>(by rw [h] at hr;cases hr),fun j hj=>?_⟩
  by_cases hji:j=i
  ·subst hji;exact hy.wpOp hi trivial ⟨hS,H⟩
  ·have h1:=H.2 j (ready_mono hj hji)
   obtain ⟨hjun,oj,hoj,hall⟩:=mem_ready.1 hj
   have hiun:=(mem_ready.1 hr).1
   have hnot:∀ e∈oj.after,Region.binds md e=true→e.on≠i:=fun e he hb heq=>by
    have h1:=hall e he hb
    rw [heq] at h1
    rcases Nat.lt_or_ge i L.size with h' | h'
    ·simp [h'] at hiun h1;rw [hiun] at h1;cases h1
    ·simp [Array.getElem?_eq_none h'] at h1
   have h2:=wpOp_putIf hoj (hfree j oj hoj hji hjun hnot) (fun cs b=>hsel i oi cs b hi) (fun cs b=>hsel j oj cs b hoj) hQ hy h1
   have hfree':∀ k ok,ops[k]?=some ok→k≠i→(L.setIfInBounds j true).getD k true=false→(∀ e∈ok.after,Region.binds md e=true→e.on≠i)→oi.apart ops ok=true:=fun k ok hk hki hun hno=>by
    refine hfree k ok hk hki ?_ hno
    by_cases hjk:j=k
    ·subst hjk;exact hjun
    ·rw [getD_set_ne true hjk] at hun;exact hun
   refine wpOp_mono (fun a' w' h3=>?_) h2
   refine ⟨fun hn=>h3.2.1 (none_skip hiD hn hji),ih (L.setIfInBounds j true) a' w' hfree' (ready_mono hr (Ne.symm hji)) h3.1 (fun hn=>h3.2.1 (by rw [Array.setIfInBounds_comm _ _ (Ne.symm hji)];exact hn)) ?_⟩
   rw [Array.setIfInBounds_comm _ _ hji]
   exact h3.2.2
theorem wpAnyU_takeF {i:Nat} {oi:Oper} {v:Value} {fuel:Nat} {L:Array Bool} {a:Act} {w:World} (hi:ops[i]?=some oi)
  (hs:(Region.noSelect ops&&!D.contains i)=true) (hf:Region.free md ops L i=true) (hr:(Region.ready md ops L).contains i=true)
  (hQ:∀ c a w,Q (.panic c) (a.put oi.dst v) w→Q (.panic c) a w) (hy:YieldsIf P ops (fun _=>True) oi v a) (hS:noneYet D (L.setIfInBounds i true)=true→S w)
  (h:wpAnyU P md ops Q D S fuel (L.setIfInBounds i true) (a.put oi.dst v) w):wpAnyU P md ops Q D S (fuel+1) L a w:=by
 simp only [Bool.and_eq_true] at hs
 exact wpAnyU_firstF hi (Region.noSelect_spec hs.1) hQ (by have:=hs.2;simp at this;exact this) fuel L a w (Region.free_spec hi hf) (by simpa using hr) hy hS h
def AllReadyU (P:Program) (md:Region.Mode) (ops:Array Oper) (Q:Exit→Act→World→Prop) (D:List Nat) (S:World→Prop) (fuel:Nat) (L:Array Bool) (a:Act) (w:World) (rs:List Nat):Prop :=
 ∀ i∈rs,wpOp P ops Q i (fun a' w'=>(noneYet D (L.setIfInBounds i true)=true→S w')∧wpAnyU P md ops Q D S fuel (L.setIfInBounds i true) a' w') a w
theorem AllReadyU.nil {fuel:Nat} {L:Array Bool} {a:Act} {w:World}:AllReadyU P md ops Q D S fuel L a w []:=fun _ h=>by cases h
theorem AllReadyU.cons {fuel:Nat} {L:Array Bool} {a:Act} {w:World} {i:Nat} {o:Oper} {rs:List Nat} (ho:ops[i]?=some o)
  (h:∀ K':Act→World→Prop,Shut (∀ a w,(noneYet D (L.setIfInBounds i true)=true→S w)→wpAnyU P md ops Q D S fuel (L.setIfInBounds i true) a w→K' a w)→if Region.wanted o (yielded ops a.tmps)=true then Oper.wp P o a w K' Q else K' (a.put o.dst undef) w)
  (hs:AllReadyU P md ops Q D S fuel L a w rs):AllReadyU P md ops Q D S fuel L a w (i::rs):=fun j hj=>by
 rcases List.mem_cons.1 hj with rfl | hj
 ·exact wpOp_step ho (fun K' hK=>h K' (fun a w hS hW=>hK a w ⟨hS,hW⟩))
 ·exact hs j hj
theorem wpAnyU_ready {rs:List Nat} {fuel:Nat} {L:Array Bool} {a:Act} {w:World} (hr:Region.ready md ops L=rs) (hne:rs≠[])
  (h:AllReadyU P md ops Q D S fuel L a w rs):wpAnyU P md ops Q D S (fuel+1) L a w:=⟨fun h0=>absurd (hr ▸ h0) hne,hr ▸ h⟩
theorem wpAnyU_done {L:Array Bool} {a:Act} {w:World} (hr:Region.ready md ops L=[]) (h:Q .normal a w):∀ fuel,wpAnyU P md ops Q D S fuel L a w
 | 0=>⟨hr,h⟩
 | _+1=>⟨fun _=>h,by rw [hr];simp⟩
theorem wp_region_until (D:List Nat) {id:Nat} {a:Act} {w:World} (hm:P.follows .mixedOrders=true) (h:wpAnyU P .any ops Q D S ops.size (Array.replicate ops.size false) a w.drew):(Code.region id ops true).wp P Q a w :=
 wp_region_any hm (wpAnyU.any _ _ _ _ h)
theorem tkU (N:List Nat) (i d:Nat) (v:Value) {op:Op} {ty:TypeId} {pos:String} {after:Array Edge} {guard:Option (Tmp×Bool)} {fuel:Nat} {L:Array Bool} {a:Act} {w:World} (hi:ops[i]?=some ⟨some d,op,ty,pos,after,guard⟩) (hk:((waitN md ops i N&&D.all (fun d=>N.contains d)&&noneYet N L)&&(Region.noSelect ops&&(Region.free md ops L i&&(Region.ready md ops L).contains i)))=true)
  (hQ:∀ c a w,Q (.panic c) (a.put (some d) v) w→Q (.panic c) a w) (hy:YieldsIf P ops S ⟨some d,op,ty,pos,after,guard⟩ v a) (hS:S w) (h:wpAnyU P md ops Q D S fuel (L.setIfInBounds i true) (a.put (some d) v) w):wpAnyU P md ops Q D S (fuel+1) L a w :=
 have h1:=Bool.and_eq_true_iff.1 hk
 have h2:=Bool.and_eq_true_iff.1 h1.2
 have h3:=Bool.and_eq_true_iff.1 h2.2
 wpAnyU_take N hi h1.1 h2.1 h3.1 h3.2 hQ hy hS h
theorem tkF (i d:Nat) (v:Value) {op:Op} {ty:TypeId} {pos:String} {after:Array Edge} {guard:Option (Tmp×Bool)} {fuel:Nat} {L:Array Bool} {a:Act} {w:World} (hi:ops[i]?=some ⟨some d,op,ty,pos,after,guard⟩) (hk:((Region.noSelect ops&&!D.contains i)&&(Region.free md ops L i&&(Region.ready md ops L).contains i))=true)
  (hQ:∀ c a w,Q (.panic c) (a.put (some d) v) w→Q (.panic c) a w) (hy:YieldsIf P ops (fun _=>True) ⟨some d,op,ty,pos,after,guard⟩ v a) (hS:noneYet D (L.setIfInBounds i true)=true→S w) (h:wpAnyU P md ops Q D S fuel (L.setIfInBounds i true) (a.put (some d) v) w):wpAnyU P md ops Q D S (fuel+1) L a w :=
 have h1:=Bool.and_eq_true_iff.1 hk
 have h2:=Bool.and_eq_true_iff.1 h1.2
 wpAnyU_takeF hi h1.1 h2.1 h2.2 hQ hy hS h
end
end Go.Proofs.YtmklemelgdilkaaGreatDoor
namespace Go.Proofs.YtmklemelgdilkaaGreatDoor
set_option linter.all false
attribute [local irreducible] Calls
attribute [local irreducible] wpStill
open Go.RowKit

@[irreducible] def eRel (w0:World) (E:CpE) (i q n:Nat) (W1:World) (ov nv:Value) (X:List Prt) (Y:List Int) (iv:Value) (wr:World):Prop :=
 ∃ (nth k m:Nat) (out':List Prt) (ns':List Int) (ov' nv':Value),iv=.int .i64 (nth:Int)∧nth≤q∧advT E.l nth (i+1) (endB E.l i)=some k∧CpIn w0 E out' ns' k ov' nv' wr∧KpC E.g ov nv ov' nv' W1 wr ∧
  out'++(gKids E.l E.fr m (ptAt E.l i) nth k (endB E.l i)).map (·.1)=X∧ns'++(gKids E.l E.fr m (ptAt E.l i) nth k (endB E.l i)).map (·.2)=Y∧2*(endB E.l i-k)+1≤m∧m≤n∧ns'.length=out'.length
theorem kid_here {l:List Prt} {us:List Nat} (hl:rowsB l=some us) {i q nth k:Nat} (hi:i<l.length) (hq:advT l q (i+1) (endB l i)=some (endB l i)) (hk:advT l nth (i+1) (endB l i)=some k) (hn:nth<q):k<endB l i∧advT l (nth+1) (i+1) (endB l i)=some (endB l k)∧endB l k≤endB l i:=by
 have hg:=endB_gt hl hi
 obtain ⟨r1,r2,r3⟩:=adv_rest hl hg.2 hq hk
 have hne:k≠endB l i:=by
  intro e
  subst e
  obtain ⟨J,hJ⟩:∃ J,q-nth=J+1:=⟨q-nth-1,by omega⟩
  rw [hJ] at r3
  rw [advT,if_neg (by omega)] at r3
  cases r3
 obtain ⟨hlt,J,_,hJ⟩:=adv_next r3 hne
 have h5:=adv_le hl _ _ _ _ hg.2 hJ
 exact ⟨hlt,by rw [adv_add,hk,Option.bind_some,advT,if_pos hlt,advT],by omega⟩
theorem adv_many {l:List Prt} {us:List Nat} (hl:rowsB l=some us) {stop:Nat} (hs:stop≤l.length):∀ n k b,advT l n k stop=some b→k+n≤b
 | 0,k,b,h=>by rw [advT] at h;cases h;omega
 | n+1,k,b,h=>by
  rw [advT] at h
  split at h
  ·rename_i hlt
   have h1:=adv_many hl hs n _ b h
   have h2:=(endB_gt hl (show k<l.length by omega)).1
   omega
  ·cases h
set_option maxRecDepth 100000 in
set_option maxHeartbeats 16000000 in
theorem cp_each (w0:World) (E:CpE) (F:CpF w0 E) (n:Nat) (ihP:∀ m,m<n→PutC w0 E m) (W:World) (out:List Prt) (ns:List Int) (i:Nat) (ov nv:Value) (hi:CpIn w0 E out ns (i+1) ov nv W) (hil:i<E.l.length) (hfu:2*(endB E.l i-(i+1))+1≤n) (hlen:out.length+(gKids E.l E.fr n (ptAt E.l i) 0 (i+1) (endB E.l i)).length≤1000000000) (hns:ns.length=out.length) :
  Calls Tryz.prog 56 #[.pointer (some ⟨E.g,0,none⟩),partA (ptAt E.l i),.func (.func 41) #[.pointer (some ⟨E.g,0,none⟩)] #[]] W (cpPost w0 E out ns ov nv (gKids E.l E.fr n (ptAt E.l i) 0 (i+1) (endB E.l i)) (endB E.l i) W):=by
 obtain ⟨q,hq1,hq2,hq3,hq4⟩:=kids_list (well_rows F.w) hil
 have hgg:=endB_gt (well_rows F.w) hil
 have hpt:ptAt E.l i=E.l[i]:=by unfold ptAt;simp [List.getD_eq_getElem?_getD,hil]
 have hps:(ptAt E.l i).2.2.size≤1048576:=by rw [hpt];exact (F.s.2 _ (List.getElem_mem hil)).2
 have hq9:q≤1048576:=by
  have h1:=F.s.1
  have h2:=adv_many (well_rows F.w) hgg.2 _ _ _ hq2
  omega
 have hgl:=keeps_lt hi.s
 have HBX:=Hd ((Below.refl W.heap.size W).alloc (Nat.le_refl _) (.cells #[.int .u8 ((ptAt E.l i).1:Int),.int .i64 (ptAt E.l i).2.1,.string (ptAt E.l i).2.2] 45))
 have HP1:=Hd (PK.alloc_new W (ptAt E.l i))
 have HC1:=Hd (hi.below HBX.out)
 have HK1:=Hd (KpC.of_below (g:=E.g) (ov:=ov) (nv:=nv) HBX.out)
 have HTG:RowKit.Hid (W.heap.size≠E.g):=Hd (by omega)
 have HTO:RowKit.Hid (ov.ownBlock≠some W.heap.size):=Hd (fun e=>by have:=(hi.o.lt _ e).2;omega)
 have HTN:RowKit.Hid (nv.ownBlock≠some W.heap.size):=Hd (fun e=>by have:=(hi.f.lt _ e).2;omega)
 have hk2:(ptAt E.l i).2.1=(q:Int):=by rw [hpt];exact hq1
 have HF:=Hd F
 have HPP:=Hd (rfl:ptAt E.l i=ptAt E.l i)
 obtain ⟨X,hX⟩:∃ X,out++(gKids E.l E.fr n (ptAt E.l i) 0 (i+1) (endB E.l i)).map (·.1)=X:=⟨_,rfl⟩
 obtain ⟨Y,hY⟩:∃ Y,ns++(gKids E.l E.fr n (ptAt E.l i) 0 (i+1) (endB E.l i)).map (·.2)=Y:=⟨_,rfl⟩
 have hXl:X.length≤1000000000:=by rw [← hX];simp;omega
 have HQ:RowKit.Hid (∀ W1 w' ov' nv' v,KpC E.g ov nv ov nv W W1→CpIn w0 E X Y (endB E.l i) ov' nv' w'→KpC E.g ov nv ov' nv' W1 w'→cpPost w0 E out ns ov nv (gKids E.l E.fr n (ptAt E.l i) 0 (i+1) (endB E.l i)) (endB E.l i) W (.returned v) w'):=Hd fun W1 w' ov' nv' v h1 hc hk=>by
  unfold cpPost
  exact ⟨ov',nv',v,rfl,by rw [hX,hY];exact hc,h1.trans hk⟩
 have HR0:RowKit.Hid (∀ W1,CpIn w0 E out ns (i+1) ov nv W1→eRel w0 E i q n W1 ov nv X Y (.int .i64 0) W1):=Hd fun W1 hc=>by
  unfold eRel
  exact ⟨0,i+1,n,out,ns,ov,nv,rfl,Nat.zero_le _,rfl,hc,KpC.refl _ _ _ _,hX,hY,hfu,Nat.le_refl _,hns⟩
 generalize cpPost w0 E out ns ov nv (gKids E.l E.fr n (ptAt E.l i) 0 (i+1) (endB E.l i)) (endB E.l i) W=Q at *
 clear hX hY hpt hq1 hi F hlen hns
 unfold partA
 have HKQ:=Hd hk2
 rw [hk2] at HBX HP1 HC1 HK1 ⊢
 clear hk2 hq3 hq4
 go_enter Tryz.func56,Tryz.ntmps56
 go_upto_region 1 with (fail)
 generalize W.alloc (.cells #[.int .u8 ((ptAt E.l i).1:Int),.int .i64 (q:Int),.string (ptAt E.l i).2.2] 45)=W1 at *
 have p1:=HP1.out.c1
 rw [HKQ.out] at p1
 go_wp2_with fail
 clear p1
 go_loopw [9] (fun iv wr=>eRel w0 E i q n W1 ov nv X Y iv wr) (fun iv _=>q-(intOf iv).toNat)
 case atStart=>exact HR0.out W1 HC1.out
 case round =>
  unfold eRel at hrel
  obtain ⟨nth,k,m,out',ns',ov',nv',rfl,hnq,hk,hc,hkp,hx,hy,hm,hmn,hns'⟩:=hrel
  by_cases hlt:nth<q
  ·obtain ⟨hks,hk',hke⟩:=kid_here (well_rows HF.out.w) hil hq2 hk hlt
   obtain ⟨m,rfl⟩:∃ m',m=m'+1:=⟨m-1,by omega⟩
   rw [gKids,if_neg (by omega)] at hx hy
   have hkl:k<E.l.length:=by omega
   have HPr:RowKit.Hid (PK wr W.heap.size (ptAt E.l i)):=Hd (by
    have h:=HP1.out
    unfold PK at *
    rw [hkp.low _ (lt_of_block h) HTG.out HTO.out HTN.out];exact h)
   have hto:ov'.ownBlock≠some W.heap.size:=no_app HP1.out hkp HTO.out
   have htn:nv'.ownBlock≠some W.heap.size:=fun e=>by
    have hl:=lt_of_block HP1.out
    rcases hkp.nn _ e with e | e
    ·exact HTN.out e
    ·omega
   have HTO':=Hd hto;have HTN':=Hd htn
   have HLA:=HF.out.L
   obtain ⟨la,lc,hvl,hlc⟩:=HF.out.L.slice
   rw [hvl] at HLA
   obtain ⟨lb,lo,rfl,y1,y2,y3,y4⟩:=HLA.at (Below.refl _ _) (show 0<E.l.length by omega)
   clear y1 y2 y3 y4
   have hpk:ptAt E.l k=E.l[k]:=by unfold ptAt;simp [List.getD_eq_getElem?_getD,hkl]
   have hpks:(ptAt E.l k).2.2.size≤1048576:=by rw [hpk];exact (HF.out.s.2 _ (List.getElem_mem hkl)).2
   have HSF:RowKit.Hid (∀ W',Below wr.heap.size wr W'→W'.cell? ⟨E.g,0,none⟩=some (.slice (some ⟨lb,lo,none⟩) E.l.length lc)∧W'.cell? ⟨E.g,4,none⟩=some (.int .i64 (k:Int))∧W'.cell? ⟨lb,lo+k*3,none⟩=some (.int .u8 ((ptAt E.l k).1:Int))∧W'.cell? ⟨lb,lo+k*3+1,none⟩=some (.int .i64 (ptAt E.l k).2.1)∧W'.cell? ⟨lb,lo+k*3+2,none⟩=some (.string (ptAt E.l k).2.2)∧W'.cell? ⟨W.heap.size,0,none⟩=some (.int .u8 ((ptAt E.l i).1:Int))∧W'.cell? ⟨W.heap.size,1,none⟩=some (.int .i64 (ptAt E.l i).2.1)∧W'.cell? ⟨W.heap.size,2,none⟩=some (.string (ptAt E.l i).2.2)∧RowKit.Hid (Below wr.heap.size wr W')):=Hd fun W' hb=>by
    have hc':=hc.below hb
    have hp':=HPr.out.keep hb
    obtain ⟨b2,o2,e',_,_,_,hcc⟩:=HLA.at hc'.b (show 0<E.l.length by omega)
    simp only [Option.some.injEq,Addr.mk.injEq,and_true] at e'
    obtain ⟨rfl,rfl⟩:=e'
    obtain ⟨d0,d1,d2⟩:=hcc k hkl
    rw [hpk]
    exact ⟨by rw [hc'.s.cells.1,hvl],hc'.s.cells.2.2.2.2.1,d0,d1,d2,hp'.c0,hp'.c1,hp'.c2,Hd hb⟩
   have hwb:Below w0.heap.size w0 wr:=hc.b
   have CV:=Hd (fun W' (hb:Below wr.heap.size wr W')=>guard_Level (ptAt E.l k) hpks W' ((HF.out.M.below hwb).below hb))
   have CE:=Hd (fun W' (hb:Below wr.heap.size wr W')=>guard_least (ptAt E.l i) nth (by omega) hps W' ((HF.out.M.below hwb).below hb))
   unfold partA at CV CE
   have HC:=Hd hc;have HKP:=Hd hkp;have HNS:=Hd hns';have HXX:=Hd hx;have HYY:=Hd hy
   have hk0:(0:Int)≤(k:Int):=by omega
   have hkll:(k:Int)<E.l.length:=by omega
   have hklc:(k:Int)<(lc:Int):=by omega
   clear hc hkp hns' hx hy hto htn hvl HLA hpk hwb
   go_upto_region 4 with (fail)
   have HBd:=Hd (Below.refl wr.heap.size wr).drew
   refine region_cutC (fun a a' w'=>a'=(((((((((((((((a.put (some 12) (.pointer (some ⟨E.g,0,none⟩))).put (some 13) (.pointer (some ⟨E.g,0,none⟩))).put (some 14) (.pointer (some ⟨E.g,0,none⟩))).put (some 15) (.slice (some ⟨lb,lo,none⟩) E.l.length lc)).put (some 16) (.pointer (some ⟨E.g,0,none⟩))).put (some 17) (.pointer (some ⟨E.g,0,none⟩))).put (some 18) (.pointer (some ⟨E.g,4,none⟩))).put (some 19) (.int .i64 (k:Int))).put (some 20) (.pointer (some ⟨lb,lo+k*3,none⟩))).put (some 21) (.agg #[.int .u8 ((ptAt E.l k).1:Int),.int .i64 (ptAt E.l k).2.1,.string (ptAt E.l k).2.2])).put (some 22) (.int .i64 (levelZ (ptAt E.l k):Int))).put (some 23) (.agg #[.int .u8 ((ptAt E.l i).1:Int),.int .i64 (ptAt E.l i).2.1,.string (ptAt E.l i).2.2])).put (some 24) (.int .i64 (nth:Int))).put (some 25) (.int .i64 (leastZ (ptAt E.l i) nth:Int))).put (some 26) (.bool (decide (levelZ (ptAt E.l k)<leastZ (ptAt E.l i) nth))))∧RowKit.Hid (Below wr.heap.size wr w')) ?_ ?_
   ·go_region_held3 (fun W'=>W'.cell? ⟨E.g,0,none⟩=some (.slice (some ⟨lb,lo,none⟩) E.l.length lc)∧W'.cell? ⟨E.g,4,none⟩=some (.int .i64 (k:Int))∧W'.cell? ⟨lb,lo+k*3,none⟩=some (.int .u8 ((ptAt E.l k).1:Int))∧W'.cell? ⟨lb,lo+k*3+1,none⟩=some (.int .i64 (ptAt E.l k).2.1)∧W'.cell? ⟨lb,lo+k*3+2,none⟩=some (.string (ptAt E.l k).2.2)∧W'.cell? ⟨W.heap.size,0,none⟩=some (.int .u8 ((ptAt E.l i).1:Int))∧W'.cell? ⟨W.heap.size,1,none⟩=some (.int .i64 (ptAt E.l i).2.1)∧W'.cell? ⟨W.heap.size,2,none⟩=some (.string (ptAt E.l i).2.2)∧RowKit.Hid (Below wr.heap.size wr W'))
     (first | exact HSF.out _ HBd.out | exact HSF.out _ (bthen HBd.out hbA) | exact HSF.out _ (bthen HBd.out hbB) | exact HSF.out _ (bthen (bthen HBd.out hbA) hbB) | exact HSF.out _ (bthen (bthen HBd.out hbB) hbA))
     (first
      | (go_at_call 76;refine (CV.out _ (by first | exact HBd.out | exact bthen HBd.out hbB)).mono ?_;rintro e wA ⟨rfl,hbA⟩;(try dsimp only))
      | (go_at_call 77;refine (CE.out _ (by first | exact HBd.out | exact bthen HBd.out hbA)).mono ?_;rintro e wB ⟨rfl,hbB⟩;(try dsimp only)))
    all_goals
     rename_i hH
     obtain ⟨_,_,_,_,_,_,_,_,HBE⟩:=hH
     exact ⟨by kernel_rfl,HBE⟩
   rintro _ w4 ⟨rfl,HB4⟩
   (try simp only [aP])
   have HC4:=Hd (HC.out.below HB4.out)
   have HK4:=Hd (HKP.out.trans (KpC.of_below HB4.out))
   clear HC HKP HB4 CV CE HSF HPr HTO' HTN'
   have HST:RowKit.Hid (∀ w7 ov7 nv7,CpIn w0 E (out'++(brk (ptAt E.l i) nth (ptAt E.l k)).map (·.1)++(gPart E.l E.fr m k).map (·.1)) (ns'++(brk (ptAt E.l i) nth (ptAt E.l k)).map (·.2)++(gPart E.l E.fr m k).map (·.2)) (endB E.l k) ov7 nv7 w7→KpC E.g ov nv ov7 nv7 W1 w7→eRel w0 E i q n W1 ov nv X Y (.int .i64 ((nth:Int)+1)) w7):=Hd fun w7 ov7 nv7 hc hkp=>by
    have hx:=HXX.out;have hy:=HYY.out;have hn:=HNS.out
    unfold eRel
    refine ⟨nth+1,endB E.l k,m,_,_,ov7,nv7,by push_cast;rfl,hlt,hk',hc,hkp,by rw [← hx];simp [List.append_assoc],by rw [← hy];simp [List.append_assoc],?_,by omega,by simp [hn]⟩
    have:=(endB_gt (well_rows HF.out.w) hkl).1
    omega
   have HLN:RowKit.Hid (out'.length+(brk (ptAt E.l i) nth (ptAt E.l k)).length+(gPart E.l E.fr m k).length≤1000000000):=Hd (by
    have h:=congrArg List.length HXX.out
    simp only [List.length_append,List.length_map] at h
    omega)
   have hfuel:2*(endB E.l k-k)≤m:=by omega
   have HBK:RowKit.Hid (brk (ptAt E.l i) nth (ptAt E.l k)=if levelZ (ptAt E.l k)<leastZ (ptAt E.l i) nth then [paren] else []):=Hd (by unfold brk;rw [← least_loose];by_cases h:levelZ (ptAt E.l k)<leastZ (ptAt E.l i) nth <;> simp [h])
   clear HXX HYY hk hk' hm
   by_cases hz:levelZ (ptAt E.l k)<leastZ (ptAt E.l i) nth
   ·have hz1:decide (levelZ (ptAt E.l k)<leastZ (ptAt E.l i) nth)=true:=decide_eq_true hz
    have hzi:((levelZ (ptAt E.l k):Nat):Int)<(leastZ (ptAt E.l i) nth:Int):=by omega
    have hbk:=HBK.out
    rw [if_pos hz] at hbk
    rw [hbk] at HST HLN
    clear hbk HBK
    have hol:out'.length≤1000000000:=by have:=HLN.out;omega
    have hnl:ns'.length≤1000000000:=by rw [HNS.out];exact hol
    go_upto_region 5 with (fail)
    obtain ⟨c0,c1,c2,c3,c4,cz⟩:=HC4.out.s.cells
    obtain ⟨v5,w5,hr5,hs5,hc5,hk5⟩:=HC4.out.part (28,1,ByteArray.empty) (by omega)
    obtain ⟨v5a,v5n,v5c,rfl⟩:=owns_slice hc5.o
    obtain ⟨e0,e1,e2,e3,e4,ez⟩:=hs5.cells
    have HC5:=Hd hc5;have HK5:=Hd (HK4.out.trans hk5)
    clear hs5 hc5 hk5
    go_upto_region 6 with (at_builtin;refine wpList_append_run rfl _ _ _ _ hr5 rfl rfl rfl rfl ?_)
    clear c0 c1 c2 c3 c4 cz e0 e1 e2 e3 e4 ez hr5 HC4 HK4
    generalize w5.setCell ⟨E.g,2,none⟩ (.slice v5a v5n v5c)=w5' at *
    obtain ⟨c0,c1,c2,c3,c4,cz⟩:=HC5.out.s.cells
    obtain ⟨v6,w6,hr6,hs6,hc6,hk6⟩:=HC5.out.num (-1) (by omega)
    obtain ⟨v6a,v6n,v6c,rfl⟩:=owns_slice hc6.f
    obtain ⟨e0,e1,e2,e3,e4,ez⟩:=hs6.cells
    have HC6:=Hd hc6;have HK6:=Hd (HK5.out.trans hk6)
    clear hs6 hc6 hk6
    go_upto_region 7 with (at_builtin;refine wpList_append_run rfl _ _ _ _ hr6 rfl rfl rfl rfl ?_)
    clear c0 c1 c2 c3 c4 cz e0 e1 e2 e3 e4 ez hr6 HC5 HK5
    generalize w6.setCell ⟨E.g,3,none⟩ (.slice v6a v6n v6c)=w6' at *
    go_wp2_with fail
    have hp:=ihP m (by omega)
    unfold PutC at hp
    refine (hp w6' _ _ k _ _ HC6.out hkl hfuel (by have:=HLN.out;simp only [List.length_append,List.length_singleton] at *;omega) (by have:=HNS.out;simp only [List.length_append,List.length_singleton];omega)).mono ?_
    clear hp
    intro e w7 hp
    unfold cpPost at hp
    obtain ⟨ov7,nv7,v7,rfl,hc7,hk7⟩:=hp
    have HRL:=Hd (HST.out w7 ov7 nv7 hc7 (HK6.out.trans hk7))
    clear hc7 hk7
    go_wp2_with fail
    go_roundw
    case rel=>exact HRL.out
    case measure=>simp only [intOf];omega
   ·have hz1:decide (levelZ (ptAt E.l k)<leastZ (ptAt E.l i) nth)=false:=decide_eq_false hz
    have hzi:¬ ((levelZ (ptAt E.l k):Nat):Int)<(leastZ (ptAt E.l i) nth:Int):=by omega
    have hbk:=HBK.out
    rw [if_neg hz] at hbk
    rw [hbk] at HST HLN
    simp only [List.map_nil,List.append_nil,List.length_nil,Nat.add_zero] at HST HLN
    clear hbk HBK
    go_wp2_with fail
    have hp:=ihP m (by omega)
    unfold PutC at hp
    refine (hp w4 _ _ k _ _ HC4.out hkl hfuel HLN.out HNS.out).mono ?_
    clear hp
    intro e w7 hp
    unfold cpPost at hp
    obtain ⟨ov7,nv7,v7,rfl,hc7,hk7⟩:=hp
    have HRL:=Hd (HST.out w7 ov7 nv7 hc7 (HK4.out.trans hk7))
    clear hc7 hk7
    go_wp2_with fail
    go_roundw
    case rel=>exact HRL.out
    case measure=>simp only [intOf];omega
  ·obtain rfl:nth=q:=by omega
   obtain rfl:endB E.l i=k:=by rw [hq2] at hk;exact Option.some.inj hk
   cases m with
   | zero=>omega
   | succ m =>
    rw [gKids,if_pos rfl,List.map_nil,List.append_nil] at hx hy
    subst hx;subst hy
    have HZ:RowKit.Hid (∀ v,Q (.returned v) wr):=Hd fun v=>HQ.out W1 wr ov' nv' v HK1.out hc hkp
    clear hc hkp
    go_wp2_with fail
    go_end0
    exact HZ.out _
end Go.Proofs.YtmklemelgdilkaaGreatDoor
