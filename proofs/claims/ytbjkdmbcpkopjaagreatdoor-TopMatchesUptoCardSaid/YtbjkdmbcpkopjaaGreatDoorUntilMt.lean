/- A region that draws its order: a condition on the world that holds until the first of some operations (the stores) comes up. -/
import Derived.Test.YtbjkdmbcpkopjaaGreatDoorCoreMt
import Derived.Deep.RegionHeld3
import Derived.StillTailTactics
namespace Go.Proofs.YtbjkdmbcpkopjaaGreatDoor
set_option linter.all false
open Go

def noneYet (D:List Nat) (L:Array Bool):Bool:=D.all fun d=>L.getD d true == false
section
variable {P:Program} {ops:Array Oper} {Q:Exit→Act→World→Prop} {md:Region.Mode} {S:World→Prop} {D:List Nat}
def yU (P:Program) (md:Region.Mode) (ops:Array Oper) (Q:Exit→Act→World→Prop) (D:List Nat) (S:World→Prop):Nat→Array Bool→Act→World→Prop
 | 0,L,a,w=>Region.ready md ops L=[]∧Q .normal a w
 | n+1,L,a,w=>(Region.ready md ops L=[]→Q .normal a w) ∧
   ∀ i∈Region.ready md ops L,wpOp P ops Q i (fun a' w'=>(noneYet D (L.setIfInBounds i true)=true→S w')∧yU P md ops Q D S n (L.setIfInBounds i true) a' w') a w
theorem yU.any:∀ (n:Nat) (L:Array Bool) (a:Act) (w:World),yU P md ops Q D S n L a w→wpAny P md ops Q n L a w
 | 0,_,_,_,h=>h
 | n+1,_,_,_,h=>⟨h.1,fun i hi=>wpOp_mono (fun a' w' h'=>yU.any n _ a' w' h'.2) (h.2 i hi)⟩
theorem zFo {L:Array Bool} {i n:Nat} (h:n≠i):(L.setIfInBounds i true).getD n true=L.getD n true:=getD_set_ne true (Ne.symm h)
def waitN (md:Region.Mode) (ops:Array Oper) (i:Nat) (N:List Nat):Bool:=N.all fun n=>n != i&&(match ops[n]? with
 | some o=>o.after.any fun e=>Region.binds md e&&(e.on == i || N.contains e.on)
 | none=>false)
theorem zPt {i:Nat} {N:List Nat} (h:waitN md ops i N=true) {L:Array Bool} (hi:L.getD i true=false) (hN:∀ n∈N,L.getD n true=false) {j:Nat} (hj:j∈Region.ready md ops L):j∉N:=by
 intro hm;unfold waitN at h;rw [List.all_eq_true] at h;have hn:=h j hm;obtain ⟨hjun,oj,hoj,hall⟩:=mem_ready.1 hj;rw [hoj] at hn;simp only [Bool.and_eq_true] at hn;have ha:=hn.2;rw [Array.any_eq_true'] at ha;obtain ⟨e,he,hb⟩:=ha;simp only [Bool.and_eq_true,Bool.or_eq_true,beq_iff_eq] at hb;have hl:=hall e he hb.1;rcases hb.2 with h2 | h2
 ·rw [h2] at hl;rcases Nat.lt_or_ge i L.size with h' | h'
  ·simp [h'] at hi hl;rw [hi] at hl;cases hl
  ·simp [Array.getElem?_eq_none h'] at hi
 ·have h3:=hN e.on (by simpa using h2);rcases Nat.lt_or_ge e.on L.size with h' | h'
  ·simp [h'] at h3 hl;rw [h3] at hl;cases hl
  ·simp [Array.getElem?_eq_none h'] at h3
theorem yAr {N:List Nat} (hD:∀ d∈D,d∈N) {L:Array Bool} {i j:Nat} (hN:∀ n∈N,L.getD n true=false) (hi:i∉N) (hj:j∉N):noneYet D ((L.setIfInBounds i true).setIfInBounds j true)=true:=by
 unfold noneYet;rw [List.all_eq_true];intro d hd;have hdn:=hD d hd;rw [zFo (fun (e:d=j)=>hj (e ▸ hdn)),zFo (fun (e:d=i)=>hi (e ▸ hdn)),hN d hdn];rfl
theorem zMh {i:Nat} {oi:Oper} {v:Value} {N:List Nat} (hi:ops[i]?=some oi) (hsel:∀ (j:Nat) (o:Oper) cs b,ops[j]?=some o→o.op≠.select cs b)
  (hQ:∀ c a w,Q (.panic c) (a.put oi.dst v) w→Q (.panic c) a w) (hW:waitN md ops i N=true) (hD:∀ d∈D,d∈N) (hiN:i∉N) :
  ∀ (fuel:Nat) (L:Array Bool) (a:Act) (w:World),
   (∀ j oj,ops[j]?=some oj→j≠i→L.getD j true=false→(∀ e∈oj.after,Region.binds md e=true→e.on≠i)→oi.apart ops oj=true) →
   i∈Region.ready md ops L→YieldsIf P ops S oi v a→(∀ n∈N,L.getD n true=false)→S w →
   yU P md ops Q D S fuel (L.setIfInBounds i true) (a.put oi.dst v) w→yU P md ops Q D S (fuel+1) L a w:=by
 intro fuel;induction fuel with
 | zero =>
  intro L a w _ hr hy hN hS H;refine ⟨fun h=>(by rw [h] at hr;cases hr),fun j hj=>?_⟩;by_cases hji:j=i
  ·subst hji;exact hy.wpOp hi hS ⟨fun _=>hS,H⟩
  ·have:=ready_mono hj hji;rw [H.1] at this;cases this
 | succ fuel ih =>
  intro L a w hfree hr hy hN hS H;refine ⟨fun h=>(by rw [h] at hr;cases hr),fun j hj=>?_⟩;by_cases hji:j=i
  ·subst hji;exact hy.wpOp hi hS ⟨fun _=>hS,H⟩
  ·have h1:=H.2 j (ready_mono hj hji);obtain ⟨hjun,oj,hoj,hall⟩:=mem_ready.1 hj;have hiun:=(mem_ready.1 hr).1;have hjN:=zPt hW hiun hN hj;have hnot:∀ e∈oj.after,Region.binds md e=true→e.on≠i:=fun e he hb heq=>by
    have h1:=hall e he hb;rw [heq] at h1;rcases Nat.lt_or_ge i L.size with h' | h'
    ·simp [h'] at hiun h1;rw [hiun] at h1;cases h1
    ·simp [Array.getElem?_eq_none h'] at h1
   have h2:=wpOp_putIf hoj (hfree j oj hoj hji hjun hnot) (fun cs b=>hsel i oi cs b hi) (fun cs b=>hsel j oj cs b hoj) hQ hy h1;have hfree':∀ k ok,ops[k]?=some ok→k≠i→(L.setIfInBounds j true).getD k true=false→(∀ e∈ok.after,Region.binds md e=true→e.on≠i)→oi.apart ops ok=true:=fun k ok hk hki hun hno=>by
    refine hfree k ok hk hki ?_ hno;by_cases hjk:j=k
    ·subst hjk;exact hjun
    ·rw [getD_set_ne true hjk] at hun;exact hun
   refine wpOp_mono (fun a' w' h3=>?_) h2;have hS':S w':=h3.2.1 (yAr hD hN hiN hjN);refine ⟨fun _=>hS',ih (L.setIfInBounds j true) a' w' hfree' (ready_mono hr (Ne.symm hji)) h3.1 (fun n hn=>?_) hS' ?_⟩
   ·rw [zFo (fun (e:n=j)=>hjN (e ▸ hn))];exact hN n hn
   ·rw [Array.setIfInBounds_comm _ _ hji];exact h3.2.2
theorem zPu {i:Nat} {oi:Oper} {v:Value} {fuel:Nat} {L:Array Bool} {a:Act} {w:World} (N:List Nat) (hi:ops[i]?=some oi)
  (hW:(waitN md ops i N&&D.all (fun d=>N.contains d)&&noneYet N L)=true) (hs:Region.noSelect ops=true) (hf:Region.free md ops L i=true) (hr:(Region.ready md ops L).contains i=true)
  (hQ:∀ c a w,Q (.panic c) (a.put oi.dst v) w→Q (.panic c) a w) (hy:YieldsIf P ops S oi v a) (hS:S w)
  (h:yU P md ops Q D S fuel (L.setIfInBounds i true) (a.put oi.dst v) w):yU P md ops Q D S (fuel+1) L a w:=by
 simp only [Bool.and_eq_true] at hW;obtain ⟨⟨h1,h2⟩,h3⟩:=hW;refine zMh (N:=N) hi (Region.noSelect_spec hs) hQ h1 (fun d hd=>?_) (fun hm=>?_) fuel L a w (Region.free_spec hi hf) (by simpa using hr) hy (fun n hn=>?_) hS h
 ·rw [List.all_eq_true] at h2
  simpa using h2 d hd
 ·unfold waitN at h1;rw [List.all_eq_true] at h1;have:=h1 i hm;simp at this
 ·unfold noneYet at h3;rw [List.all_eq_true] at h3
  simpa using h3 n hn
theorem zWs {L:Array Bool} {i j:Nat} (hi:i∉D) (h:noneYet D (L.setIfInBounds j true)=true) (hji:j≠i):noneYet D ((L.setIfInBounds i true).setIfInBounds j true)=true:=by
 unfold noneYet at *;rw [List.all_eq_true] at *;intro d hd;have h1:=h d hd;rw [Array.setIfInBounds_comm _ _ (Ne.symm hji),zFo (fun (e:d=i)=>hi (e ▸ hd))];exact h1
theorem zJd {i:Nat} {oi:Oper} {v:Value} (hi:ops[i]?=some oi) (hsel:∀ (j:Nat) (o:Oper) cs b,ops[j]?=some o→o.op≠.select cs b)
  (hQ:∀ c a w,Q (.panic c) (a.put oi.dst v) w→Q (.panic c) a w) (hiD:i∉D) :
  ∀ (fuel:Nat) (L:Array Bool) (a:Act) (w:World),
   (∀ j oj,ops[j]?=some oj→j≠i→L.getD j true=false→(∀ e∈oj.after,Region.binds md e=true→e.on≠i)→oi.apart ops oj=true) →
   i∈Region.ready md ops L→YieldsIf P ops (fun _=>True) oi v a→(noneYet D (L.setIfInBounds i true)=true→S w) →
   yU P md ops Q D S fuel (L.setIfInBounds i true) (a.put oi.dst v) w→yU P md ops Q D S (fuel+1) L a w:=by
 intro fuel;induction fuel with
 | zero =>
  intro L a w _ hr hy hS H;refine ⟨fun h=>(by rw [h] at hr;cases hr),fun j hj=>?_⟩;by_cases hji:j=i
  ·subst hji;exact hy.wpOp hi trivial ⟨hS,H⟩
  ·have:=ready_mono hj hji;rw [H.1] at this;cases this
 | succ fuel ih =>
  intro L a w hfree hr hy hS H;refine ⟨fun h=>(by rw [h] at hr;cases hr),fun j hj=>?_⟩;by_cases hji:j=i
  ·subst hji;exact hy.wpOp hi trivial ⟨hS,H⟩
  ·have h1:=H.2 j (ready_mono hj hji);obtain ⟨hjun,oj,hoj,hall⟩:=mem_ready.1 hj;have hiun:=(mem_ready.1 hr).1;have hnot:∀ e∈oj.after,Region.binds md e=true→e.on≠i:=fun e he hb heq=>by
    have h1:=hall e he hb;rw [heq] at h1;rcases Nat.lt_or_ge i L.size with h' | h'
    ·simp [h'] at hiun h1;rw [hiun] at h1;cases h1
    ·simp [Array.getElem?_eq_none h'] at h1
   have h2:=wpOp_putIf hoj (hfree j oj hoj hji hjun hnot) (fun cs b=>hsel i oi cs b hi) (fun cs b=>hsel j oj cs b hoj) hQ hy h1;have hfree':∀ k ok,ops[k]?=some ok→k≠i→(L.setIfInBounds j true).getD k true=false→(∀ e∈ok.after,Region.binds md e=true→e.on≠i)→oi.apart ops ok=true:=fun k ok hk hki hun hno=>by
    refine hfree k ok hk hki ?_ hno;by_cases hjk:j=k
    ·subst hjk;exact hjun
    ·rw [getD_set_ne true hjk] at hun;exact hun
   refine wpOp_mono (fun a' w' h3=>?_) h2;refine ⟨fun hn=>h3.2.1 (zWs hiD hn hji),ih (L.setIfInBounds j true) a' w' hfree' (ready_mono hr (Ne.symm hji)) h3.1 (fun hn=>h3.2.1 (by rw [Array.setIfInBounds_comm _ _ (Ne.symm hji)];exact hn)) ?_⟩;rw [Array.setIfInBounds_comm _ _ hji];exact h3.2.2
theorem zMi {i:Nat} {oi:Oper} {v:Value} {fuel:Nat} {L:Array Bool} {a:Act} {w:World} (hi:ops[i]?=some oi)
  (hs:(Region.noSelect ops&&!D.contains i)=true) (hf:Region.free md ops L i=true) (hr:(Region.ready md ops L).contains i=true)
  (hQ:∀ c a w,Q (.panic c) (a.put oi.dst v) w→Q (.panic c) a w) (hy:YieldsIf P ops (fun _=>True) oi v a) (hS:noneYet D (L.setIfInBounds i true)=true→S w)
  (h:yU P md ops Q D S fuel (L.setIfInBounds i true) (a.put oi.dst v) w):yU P md ops Q D S (fuel+1) L a w:=by
 simp only [Bool.and_eq_true] at hs;exact zJd hi (Region.noSelect_spec hs.1) hQ (by have:=hs.2;simp at this;exact this) fuel L a w (Region.free_spec hi hf) (by simpa using hr) hy hS h
def kF (P:Program) (md:Region.Mode) (ops:Array Oper) (Q:Exit→Act→World→Prop) (D:List Nat) (S:World→Prop) (fuel:Nat) (L:Array Bool) (a:Act) (w:World) (rs:List Nat):Prop :=
 ∀ i∈rs,wpOp P ops Q i (fun a' w'=>(noneYet D (L.setIfInBounds i true)=true→S w')∧yU P md ops Q D S fuel (L.setIfInBounds i true) a' w') a w
theorem kF.nil {fuel:Nat} {L:Array Bool} {a:Act} {w:World}:kF P md ops Q D S fuel L a w []:=fun _ h=>by cases h
theorem kF.cons {fuel:Nat} {L:Array Bool} {a:Act} {w:World} {i:Nat} {o:Oper} {rs:List Nat} (ho:ops[i]?=some o)
  (h:∀ K':Act→World→Prop,Shut (∀ a w,(noneYet D (L.setIfInBounds i true)=true→S w)→yU P md ops Q D S fuel (L.setIfInBounds i true) a w→K' a w)→if Region.wanted o (yielded ops a.tmps)=true then Oper.wp P o a w K' Q else K' (a.put o.dst undef) w)
  (hs:kF P md ops Q D S fuel L a w rs):kF P md ops Q D S fuel L a w (i::rs):=fun j hj=>by
 rcases List.mem_cons.1 hj with rfl | hj
 ·exact wpOp_step ho (fun K' hK=>h K' (fun a w hS hW=>hK a w ⟨hS,hW⟩))
 ·exact hs j hj
theorem zMj {rs:List Nat} {fuel:Nat} {L:Array Bool} {a:Act} {w:World} (hr:Region.ready md ops L=rs) (hne:rs≠[])
  (h:kF P md ops Q D S fuel L a w rs):yU P md ops Q D S (fuel+1) L a w:=⟨fun h0=>absurd (hr ▸ h0) hne,hr ▸ h⟩
theorem yH {L:Array Bool} {a:Act} {w:World} (hr:Region.ready md ops L=[]) (h:Q .normal a w):∀ fuel,yU P md ops Q D S fuel L a w
 | 0=>⟨hr,h⟩
 | _+1=>⟨fun _=>h,by rw [hr];simp⟩
theorem zS (D:List Nat) {id:Nat} {a:Act} {w:World} (hm:P.follows .mixedOrders=true) (h:yU P .any ops Q D S ops.size (Array.replicate ops.size false) a w.drew):(Code.region id ops true).wp P Q a w :=
 wp_region_any hm (yU.any _ _ _ _ h)
end
open Go.RowKit
theorem qA (a:Act) (d:Nat) (v:Value):a.put (some d) v={ a with tmps:=a.tmps.setIfInBounds d v }:=rfl
theorem qL (l:List Value) (i:Nat) (v:Value):l.toArray.setIfInBounds i v=(l.set i v).toArray:=List.setIfInBounds_toArray ..
theorem qZ (x:Value) (l:List Value) (v:Value):(x::l).set 0 v=v::l:=rfl
theorem qS (x:Value) (l:List Value) (i:Nat) (v:Value):(x::l).set (i+1) v=x::l.set i v:=rfl
section
variable {P:Program} {ops:Array Oper} {Q:Exit→Act→World→Prop} {md:Region.Mode} {D:List Nat} {S:World→Prop} {op:Op} {ty:TypeId} {pos:String} {after:Array Edge} {guard:Option (Tmp×Bool)} {fuel:Nat} {L:Array Bool} {a a':Act} {w:World}
theorem tU (N:List Nat) (i d:Nat) {v:Value} (hS:S w) (h:yU P md ops Q D S fuel (L.setIfInBounds i true) a' w) (hi:ops[i]?=some ⟨some d,op,ty,pos,after,guard⟩:=by exact rfl)
  (hy:∀ w,S w→(execOp a.eval ⟨some d,op,ty,pos,after,guard⟩).run P w=.ok (.value v) w:=by intro w q;(try dsimp only at q);(try (first | obtain ⟨_,_,_⟩:=q | obtain ⟨_,_⟩:=q));go_simp;(try with_reducible rfl)) (ha:a.put (some d) v=a':=by (try simp only [qA,qL,qZ,qS]);exact rfl)
  (hk:((waitN md ops i N&&D.all (fun d=>N.contains d)&&noneYet N L)&&(Region.noSelect ops&&(Region.free md ops L i&&(Region.ready md ops L).contains i)))=true:=by kernel_rfl)
  (hw:Region.wanted ⟨some d,op,ty,pos,after,guard⟩ (yielded ops a.tmps)=true:=by kernel_rfl) (hQ:∀ c a w,Q (.panic c) (a.put (some d) v) w→Q (.panic c) a w:=by exact fun _ _ _ h=>h):yU P md ops Q D S (fuel+1) L a w:=by
 have h1:=Bool.and_eq_true_iff.1 hk;have h2:=Bool.and_eq_true_iff.1 h1.2;have h3:=Bool.and_eq_true_iff.1 h2.2;subst ha;exact zPu N hi h1.1 h2.1 h3.1 h3.2 hQ (Or.inl ⟨hw,hy⟩) hS h
theorem tF (i d:Nat) {v:Value} (hS:noneYet D (L.setIfInBounds i true)=true→S w) (h:yU P md ops Q D S fuel (L.setIfInBounds i true) a' w) (hi:ops[i]?=some ⟨some d,op,ty,pos,after,guard⟩:=by exact rfl)
  (hy:∀ w,True→(execOp a.eval ⟨some d,op,ty,pos,after,guard⟩).run P w=.ok (.value v) w:=by intro w q;clear q;go_simp;(try with_reducible rfl)) (ha:a.put (some d) v=a':=by (try simp only [qA,qL,qZ,qS]);exact rfl)
  (hk:((Region.noSelect ops&&!D.contains i)&&(Region.free md ops L i&&(Region.ready md ops L).contains i))=true:=by kernel_rfl)
  (hw:Region.wanted ⟨some d,op,ty,pos,after,guard⟩ (yielded ops a.tmps)=true:=by kernel_rfl) (hQ:∀ c a w,Q (.panic c) (a.put (some d) v) w→Q (.panic c) a w:=by exact fun _ _ _ h=>h):yU P md ops Q D S (fuel+1) L a w:=by
 have h1:=Bool.and_eq_true_iff.1 hk;have h2:=Bool.and_eq_true_iff.1 h1.2;subst ha;exact zMi hi h1.1 h2.1 h2.2 hQ (Or.inl ⟨hw,hy⟩) hS h
theorem rU (i:Nat) (d:Option Nat) (h:∀ K':Act→World→Prop,Shut (∀ a w,(noneYet D (L.setIfInBounds i true)=true→S w)→yU P md ops Q D S fuel (L.setIfInBounds i true) a w→K' a w)→if Region.wanted ⟨d,op,ty,pos,after,guard⟩ (yielded ops a.tmps)=true then Oper.wp P ⟨d,op,ty,pos,after,guard⟩ a w K' Q else K' (a.put d undef) w)
  (hi:ops[i]?=some ⟨d,op,ty,pos,after,guard⟩:=by exact rfl) (hr:Region.ready md ops L=[i]:=by kernel_rfl):yU P md ops Q D S (fuel+1) L a w :=
 zMj hr (by simp) (kF.cons hi h kF.nil)
theorem tH (i d:Nat) {v:Value} (hS:S w) (h:wpAnyH P md ops Q S fuel (L.setIfInBounds i true) a' w) (hi:ops[i]?=some ⟨some d,op,ty,pos,after,guard⟩:=by exact rfl)
  (hy:∀ w,S w→(execOp a.eval ⟨some d,op,ty,pos,after,guard⟩).run P w=.ok (.value v) w:=by intro w q;(try dsimp only at q);go_simp;(try with_reducible rfl)) (ha:a.put (some d) v=a':=by (try simp only [qA,qL,qZ,qS]);exact rfl)
  (hk:(Region.noSelect ops&&(Region.free md ops L i&&(Region.ready md ops L).contains i))=true:=by kernel_rfl)
  (hw:Region.wanted ⟨some d,op,ty,pos,after,guard⟩ (yielded ops a.tmps)=true:=by kernel_rfl) (hQ:∀ c a w,Q (.panic c) (a.put (some d) v) w→Q (.panic c) a w:=by exact fun _ _ _ h=>h):wpAnyH P md ops Q S (fuel+1) L a w:=by
 have h1:=Bool.and_eq_true_iff.1 hk;have h2:=Bool.and_eq_true_iff.1 h1.2;subst ha;exact wpAnyH_take hi h1.1 h2.1 h2.2 hQ (Or.inl ⟨hw,hy⟩) hS h
theorem sH (i d:Nat) (hS:S w) (h:wpAnyH P md ops Q S fuel (L.setIfInBounds i true) a' w) (hi:ops[i]?=some ⟨some d,op,ty,pos,after,guard⟩:=by exact rfl)
  (ha:a.put (some d) undef=a':=by (try simp only [qA,qL,qZ,qS]);exact rfl)
  (hk:(Region.noSelect ops&&(Region.free md ops L i&&(Region.ready md ops L).contains i))=true:=by kernel_rfl)
  (hw:Region.wanted ⟨some d,op,ty,pos,after,guard⟩ (yielded ops a.tmps)=false:=by kernel_rfl) (hQ:∀ c a w,Q (.panic c) (a.put (some d) undef) w→Q (.panic c) a w:=by exact fun _ _ _ h=>h):wpAnyH P md ops Q S (fuel+1) L a w:=by
 have h1:=Bool.and_eq_true_iff.1 hk;have h2:=Bool.and_eq_true_iff.1 h1.2;subst ha;exact wpAnyH_take hi h1.1 h2.1 h2.2 hQ (Or.inr ⟨hw,rfl⟩) hS h
theorem rH (i:Nat) (d:Option Nat) (h:∀ K':Act→World→Prop,Shut (∀ a w,S w→(S w→wpAnyH P md ops Q S fuel (L.setIfInBounds i true) a w)→K' a w)→if Region.wanted ⟨d,op,ty,pos,after,guard⟩ (yielded ops a.tmps)=true then Oper.wp P ⟨d,op,ty,pos,after,guard⟩ a w K' Q else K' (a.put d undef) w)
  (hi:ops[i]?=some ⟨d,op,ty,pos,after,guard⟩:=by exact rfl) (hr:Region.ready md ops L=[i]:=by kernel_rfl):wpAnyH P md ops Q S (fuel+1) L a w :=
 wpAnyH_ready hr (by simp) (AllReadyH.cons hi h AllReadyH.nil)
end
end Go.Proofs.YtbjkdmbcpkopjaaGreatDoor
