/- A region that draws its order: a condition on the world that holds until the first of some operations (the stores) comes up. -/
import Derived.Test.YtfpjdpdmgceciaaGreatDoorCoreTg
import Derived.Deep.RegionHeld3
import Derived.StillTailTactics
namespace Go.Proofs.YtfpjdpdmgceciaaGreatDoor
set_option linter.all false
open Go
def noneYet(D:List Nat)(L:Array Bool):Bool:=D.all λd=>L.getD d true==false
section
variable {P:Program} {ops:Array Oper} {Q:Exit->Act->World->Prop} {md:Region.Mode} {S:World->Prop} {D:List Nat}
def xE(P:Program)(md:Region.Mode)(ops:Array Oper)(Q:Exit->Act->World->Prop)(D:List Nat)(S:World->Prop):Nat->Array Bool->Act->World->Prop
 |0,L,a,w=>Region.ready md ops L=[]/\Q .normal a w
 |n+1,L,a,w=>(Region.ready md ops L=[]->Q .normal a w)/\
   ∀i∈Region.ready md ops L,wpOp P ops Q i (λa' w'=>(noneYet D (L.setIfInBounds i true)=true->S w')/\xE P md ops Q D S n (L.setIfInBounds i true) a' w') a w
theorem xE.any:∀(n:Nat)(L:Array Bool)(a:Act)(w:World),xE P md ops Q D S n L a w->wpAny P md ops Q n L a w
 |0,_,_,_,h=>h
 |n+1,_,_,_,h=>⟨h.1,λi hi=>wpOp_mono (λa' w' h'=>xE.any n _ a' w' h'.2) (h.2 i hi)⟩
theorem zHg{L:Array Bool}{i n:Nat}(h:n≠i):(L.setIfInBounds i true).getD n true=L.getD n true:=getD_set_ne true (Ne.symm h)
def waitN(md:Region.Mode)(ops:Array Oper)(i:Nat)(N:List Nat):Bool:=N.all λn=>n != i&&(match ops[n]? with
 |some o=>o.after.any λe=>Region.binds md e&&(e.on==i || N.contains e.on)
 |none=>false)
theorem zRk{i:Nat}{N:List Nat}(h:waitN md ops i N=true){L:Array Bool}(hi:L.getD i true=false)(hN:∀n∈N,L.getD n true=false){j:Nat}(hj:j∈Region.ready md ops L):j∉N:=by
 intro hm;unfold waitN at h;rw[List.all_eq_true]at h;have hn:=h j hm;obtain⟨hjun,oj,hoj,hall⟩:=mem_ready.1 hj;rw[hoj]at hn;simp only[Bool.and_eq_true]at hn;have ha:=hn.2;rw[Array.any_eq_true']at ha;obtain⟨e,he,hb⟩:=ha;simp only[Bool.and_eq_true,Bool.or_eq_true,beq_iff_eq]at hb;have hl:=hall e he hb.1;rcases hb.2 with h2|h2
 .rw[h2]at hl;rcases Nat.lt_or_ge i L.size with h'|h'
  .simp[h']at hi hl;rw[hi]at hl;cases hl
  .simp[Array.getElem?_eq_none h']at hi
 .have h3:=hN e.on (by simpa using h2);rcases Nat.lt_or_ge e.on L.size with h'|h'
  .simp[h']at h3 hl;rw[h3]at hl;cases hl
  .simp[Array.getElem?_eq_none h']at h3
theorem yEf{N:List Nat}(hD:∀d∈D,d∈N){L:Array Bool}{i j:Nat}(hN:∀n∈N,L.getD n true=false)(hi:i∉N)(hj:j∉N):noneYet D ((L.setIfInBounds i true).setIfInBounds j true)=true:=by
 unfold noneYet;rw[List.all_eq_true];intro d hd;have hdn:=hD d hd;rw[zHg (λ(e:d=j)=>hj (e▸hdn)),zHg (λ(e:d=i)=>hi (e▸hdn)),hN d hdn];rfl
theorem zOe{i:Nat}{oi:Oper}{v:Value}{N:List Nat}(hi:ops[i]?=some oi)(hsel:∀(j:Nat)(o:Oper) cs b,ops[j]?=some o->o.op≠.select cs b)(hQ:∀c a w,Q (.panic c) (a.put oi.dst v) w->Q (.panic c) a w)(hW:waitN md ops i N=true)(hD:∀d∈D,d∈N)(hiN:i∉N) :
  ∀(fuel:Nat)(L:Array Bool)(a:Act)(w:World),
   (∀j oj,ops[j]?=some oj->j≠i->L.getD j true=false->(∀e∈oj.after,Region.binds md e=true->e.on≠i)->oi.apart ops oj=true)->
   i∈Region.ready md ops L->YieldsIf P ops S oi v a->(∀n∈N,L.getD n true=false)->S w->
   xE P md ops Q D S fuel (L.setIfInBounds i true) (a.put oi.dst v) w->xE P md ops Q D S (fuel+1) L a w:=by
 intro fuel;induction fuel with
 |zero =>
  intro L a w _ hr hy hN hS H;refine⟨λh=>(by rw[h]at hr;cases hr),λj hj=>?_⟩;by_cases hji:j=i
  .subst hji;exact hy.wpOp hi hS ⟨λ_=>hS,H⟩
  .have:=ready_mono hj hji;rw[H.1]at this;cases this
 |succ fuel ih =>
  intro L a w hfree hr hy hN hS H;refine⟨λh=>(by rw[h]at hr;cases hr),λj hj=>?_⟩;by_cases hji:j=i
  .subst hji;exact hy.wpOp hi hS ⟨λ_=>hS,H⟩
  .have h1:=H.2 j (ready_mono hj hji);obtain⟨hjun,oj,hoj,hall⟩:=mem_ready.1 hj;have hiun:=(mem_ready.1 hr).1;have hjN:=zRk hW hiun hN hj;have hnot:∀e∈oj.after,Region.binds md e=true->e.on≠i:=λe he hb heq=>by
    have h1:=hall e he hb;rw[heq]at h1;rcases Nat.lt_or_ge i L.size with h'|h'
    .simp[h']at hiun h1;rw[hiun]at h1;cases h1
    .simp[Array.getElem?_eq_none h']at h1
   have h2:=wpOp_putIf hoj (hfree j oj hoj hji hjun hnot) (λcs b=>hsel i oi cs b hi) (λcs b=>hsel j oj cs b hoj) hQ hy h1;have hfree':∀k ok,ops[k]?=some ok->k≠i->(L.setIfInBounds j true).getD k true=false->(∀e∈ok.after,Region.binds md e=true->e.on≠i)->oi.apart ops ok=true:=λk ok hk hki hun hno=>by
    refine hfree k ok hk hki ?_ hno;by_cases hjk:j=k
    .subst hjk;exact hjun
    .rw[getD_set_ne true hjk]at hun;exact hun
   refine wpOp_mono (λa' w' h3=>?_) h2;have hS':S w':=h3.2.1 (yEf hD hN hiN hjN);refine⟨λ_=>hS',ih (L.setIfInBounds j true) a' w' hfree' (ready_mono hr (Ne.symm hji)) h3.1 (λn hn=>?_) hS' ?_⟩
   .rw[zHg (λ(e:n=j)=>hjN (e▸hn))];exact hN n hn
   .rw[Array.setIfInBounds_comm _ _ hji];exact h3.2.2
theorem zRl{i:Nat}{oi:Oper}{v:Value}{fuel:Nat}{L:Array Bool}{a:Act}{w:World}(N:List Nat)(hi:ops[i]?=some oi)(hW:(waitN md ops i N&&D.all (λd=>N.contains d)&&noneYet N L)=true)(hs:Region.noSelect ops=true)(hf:Region.free md ops L i=true)(hr:(Region.ready md ops L).contains i=true)(hQ:∀c a w,Q (.panic c) (a.put oi.dst v) w->Q (.panic c) a w)(hy:YieldsIf P ops S oi v a)(hS:S w)(h:xE P md ops Q D S fuel (L.setIfInBounds i true) (a.put oi.dst v) w):xE P md ops Q D S (fuel+1) L a w:=by
 simp only[Bool.and_eq_true]at hW;obtain⟨⟨h1,h2⟩,h3⟩:=hW;refine zOe (N:=N) hi (Region.noSelect_spec hs) hQ h1 (λd hd=>?_) (λhm=>?_) fuel L a w (Region.free_spec hi hf) (by simpa using hr) hy (λn hn=>?_) hS h
 .rw[List.all_eq_true]at h2
  simpa using h2 d hd
 .unfold waitN at h1;rw[List.all_eq_true]at h1;have:=h1 i hm;simp at this
 .unfold noneYet at h3;rw[List.all_eq_true]at h3
  simpa using h3 n hn
theorem zYt{L:Array Bool}{i j:Nat}(hi:i∉D)(h:noneYet D (L.setIfInBounds j true)=true)(hji:j≠i):noneYet D ((L.setIfInBounds i true).setIfInBounds j true)=true:=by
 unfold noneYet at *;rw[List.all_eq_true]at *;intro d hd;have h1:=h d hd;rw[Array.setIfInBounds_comm _ _ (Ne.symm hji),zHg (λ(e:d=i)=>hi (e▸hd))];exact h1
theorem zKj{i:Nat}{oi:Oper}{v:Value}(hi:ops[i]?=some oi)(hsel:∀(j:Nat)(o:Oper) cs b,ops[j]?=some o->o.op≠.select cs b)(hQ:∀c a w,Q (.panic c) (a.put oi.dst v) w->Q (.panic c) a w)(hiD:i∉D) :
  ∀(fuel:Nat)(L:Array Bool)(a:Act)(w:World),
   (∀j oj,ops[j]?=some oj->j≠i->L.getD j true=false->(∀e∈oj.after,Region.binds md e=true->e.on≠i)->oi.apart ops oj=true)->
   i∈Region.ready md ops L->YieldsIf P ops (λ_=>True) oi v a->(noneYet D (L.setIfInBounds i true)=true->S w)->
   xE P md ops Q D S fuel (L.setIfInBounds i true) (a.put oi.dst v) w->xE P md ops Q D S (fuel+1) L a w:=by
 intro fuel;induction fuel with
 |zero =>
  intro L a w _ hr hy hS H;refine⟨λh=>(by rw[h]at hr;cases hr),λj hj=>?_⟩;by_cases hji:j=i
  .subst hji;exact hy.wpOp hi trivial ⟨hS,H⟩
  .have:=ready_mono hj hji;rw[H.1]at this;cases this
 |succ fuel ih =>
  intro L a w hfree hr hy hS H;refine⟨λh=>(by rw[h]at hr;cases hr),λj hj=>?_⟩;by_cases hji:j=i
  .subst hji;exact hy.wpOp hi trivial ⟨hS,H⟩
  .have h1:=H.2 j (ready_mono hj hji);obtain⟨hjun,oj,hoj,hall⟩:=mem_ready.1 hj;have hiun:=(mem_ready.1 hr).1;have hnot:∀e∈oj.after,Region.binds md e=true->e.on≠i:=λe he hb heq=>by
    have h1:=hall e he hb;rw[heq]at h1;rcases Nat.lt_or_ge i L.size with h'|h'
    .simp[h']at hiun h1;rw[hiun]at h1;cases h1
    .simp[Array.getElem?_eq_none h']at h1
   have h2:=wpOp_putIf hoj (hfree j oj hoj hji hjun hnot) (λcs b=>hsel i oi cs b hi) (λcs b=>hsel j oj cs b hoj) hQ hy h1;have hfree':∀k ok,ops[k]?=some ok->k≠i->(L.setIfInBounds j true).getD k true=false->(∀e∈ok.after,Region.binds md e=true->e.on≠i)->oi.apart ops ok=true:=λk ok hk hki hun hno=>by
    refine hfree k ok hk hki ?_ hno;by_cases hjk:j=k
    .subst hjk;exact hjun
    .rw[getD_set_ne true hjk]at hun;exact hun
   refine wpOp_mono (λa' w' h3=>?_) h2;refine⟨λhn=>h3.2.1 (zYt hiD hn hji),ih (L.setIfInBounds j true) a' w' hfree' (ready_mono hr (Ne.symm hji)) h3.1 (λhn=>h3.2.1 (by rw[Array.setIfInBounds_comm _ _ (Ne.symm hji)];exact hn)) ?_⟩;rw[Array.setIfInBounds_comm _ _ hji];exact h3.2.2
theorem zOf{i:Nat}{oi:Oper}{v:Value}{fuel:Nat}{L:Array Bool}{a:Act}{w:World}(hi:ops[i]?=some oi)(hs:(Region.noSelect ops&&!D.contains i)=true)(hf:Region.free md ops L i=true)(hr:(Region.ready md ops L).contains i=true)(hQ:∀c a w,Q (.panic c) (a.put oi.dst v) w->Q (.panic c) a w)(hy:YieldsIf P ops (λ_=>True) oi v a)(hS:noneYet D (L.setIfInBounds i true)=true->S w)(h:xE P md ops Q D S fuel (L.setIfInBounds i true) (a.put oi.dst v) w):xE P md ops Q D S (fuel+1) L a w:=by
 simp only[Bool.and_eq_true]at hs;exact zKj hi (Region.noSelect_spec hs.1) hQ (by have:=hs.2;simp at this;exact this) fuel L a w (Region.free_spec hi hf) (by simpa using hr) hy hS h
def xX(P:Program)(md:Region.Mode)(ops:Array Oper)(Q:Exit->Act->World->Prop)(D:List Nat)(S:World->Prop)(fuel:Nat)(L:Array Bool)(a:Act)(w:World)(rs:List Nat):Prop :=
 ∀i∈rs,wpOp P ops Q i (λa' w'=>(noneYet D (L.setIfInBounds i true)=true->S w')/\xE P md ops Q D S fuel (L.setIfInBounds i true) a' w') a w
theorem xX.nil{fuel:Nat}{L:Array Bool}{a:Act}{w:World}:xX P md ops Q D S fuel L a w []:=λ_ h=>by cases h
theorem xX.cons{fuel:Nat}{L:Array Bool}{a:Act}{w:World}{i:Nat}{o:Oper}{rs:List Nat}(ho:ops[i]?=some o)(h:∀K':Act->World->Prop,Shut (∀a w,(noneYet D (L.setIfInBounds i true)=true->S w)->xE P md ops Q D S fuel (L.setIfInBounds i true) a w->K' a w)->if Region.wanted o (yielded ops a.tmps)=true then Oper.wp P o a w K' Q else K' (a.put o.dst undef) w)(hs:xX P md ops Q D S fuel L a w rs):xX P md ops Q D S fuel L a w (i::rs):=λj hj=>by
 rcases List.mem_cons.1 hj with rfl|hj
 .exact wpOp_step ho (λK' hK=>h K' (λa w hS hW=>hK a w ⟨hS,hW⟩))
 .exact hs j hj
theorem zEp{rs:List Nat}{fuel:Nat}{L:Array Bool}{a:Act}{w:World}(hr:Region.ready md ops L=rs)(hne:rs≠[])(h:xX P md ops Q D S fuel L a w rs):xE P md ops Q D S (fuel+1) L a w:=⟨λh0=>absurd (hr▸h0) hne,hr▸h⟩
theorem yK{L:Array Bool}{a:Act}{w:World}(hr:Region.ready md ops L=[])(h:Q .normal a w):∀fuel,xE P md ops Q D S fuel L a w
 |0=>⟨hr,h⟩
 |_+1=>⟨λ_=>h,by rw[hr];simp⟩
theorem zV(D:List Nat){id:Nat}{a:Act}{w:World}(hm:P.follows .mixedOrders=true)(h:xE P .any ops Q D S ops.size (Array.replicate ops.size false) a w.drew):(Code.region id ops true).wp P Q a w :=
 wp_region_any hm (xE.any _ _ _ _ h)
end
open Go.RowKit
theorem qA(a:Act)(d:Nat)(v:Value):a.put (some d) v={ a with tmps:=a.tmps.setIfInBounds d v }:=rfl
theorem qL(l:List Value)(i:Nat)(v:Value):l.toArray.setIfInBounds i v=(l.set i v).toArray:=List.setIfInBounds_toArray ..
theorem qZ(x:Value)(l:List Value)(v:Value):(x::l).set 0 v=v::l:=rfl
theorem qS(x:Value)(l:List Value)(i:Nat)(v:Value):(x::l).set (i+1) v=x::l.set i v:=rfl
section
variable {P:Program} {ops:Array Oper} {Q:Exit->Act->World->Prop} {md:Region.Mode} {D:List Nat} {S:World->Prop} {op:Op} {ty:TypeId} {pos:String} {after:Array Edge} {guard:Option (Tmp×Bool)} {fuel:Nat} {L:Array Bool} {a a':Act} {w:World}
theorem tU(N:List Nat)(i d:Nat){v:Value}(hS:S w)(h:xE P md ops Q D S fuel (L.setIfInBounds i true) a' w)(hi:ops[i]?=some ⟨some d,op,ty,pos,after,guard⟩:=by exact rfl)(hy:∀w,S w->(execOp a.eval ⟨some d,op,ty,pos,after,guard⟩).run P w=.ok (.value v) w:=by intro w q;(try dsimp only at q);(try(first|obtain⟨_,_,_⟩:=q|obtain⟨_,_⟩:=q));go_simp;(try with_reducible rfl))(ha:a.put (some d) v=a':=by(try simp only[qA,qL,qZ,qS]);exact rfl)(hk:((waitN md ops i N&&D.all (λd=>N.contains d)&&noneYet N L)&&(Region.noSelect ops&&(Region.free md ops L i&&(Region.ready md ops L).contains i)))=true:=by kernel_rfl)(hw:Region.wanted ⟨some d,op,ty,pos,after,guard⟩ (yielded ops a.tmps)=true:=by kernel_rfl)(hQ:∀c a w,Q (.panic c) (a.put (some d) v) w->Q (.panic c) a w:=by exactλ_ _ _ h=>h):xE P md ops Q D S (fuel+1) L a w:=by
 have h1:=Bool.and_eq_true_iff.1 hk;have h2:=Bool.and_eq_true_iff.1 h1.2;have h3:=Bool.and_eq_true_iff.1 h2.2;subst ha;exact zRl N hi h1.1 h2.1 h3.1 h3.2 hQ (Or.inl ⟨hw,hy⟩) hS h
theorem tF(i d:Nat){v:Value}(hS:noneYet D (L.setIfInBounds i true)=true->S w)(h:xE P md ops Q D S fuel (L.setIfInBounds i true) a' w)(hi:ops[i]?=some ⟨some d,op,ty,pos,after,guard⟩:=by exact rfl)(hy:∀w,True->(execOp a.eval ⟨some d,op,ty,pos,after,guard⟩).run P w=.ok (.value v) w:=by intro w q;clear q;go_simp;(try with_reducible rfl))(ha:a.put (some d) v=a':=by(try simp only[qA,qL,qZ,qS]);exact rfl)(hk:((Region.noSelect ops&&!D.contains i)&&(Region.free md ops L i&&(Region.ready md ops L).contains i))=true:=by kernel_rfl)(hw:Region.wanted ⟨some d,op,ty,pos,after,guard⟩ (yielded ops a.tmps)=true:=by kernel_rfl)(hQ:∀c a w,Q (.panic c) (a.put (some d) v) w->Q (.panic c) a w:=by exactλ_ _ _ h=>h):xE P md ops Q D S (fuel+1) L a w:=by
 have h1:=Bool.and_eq_true_iff.1 hk;have h2:=Bool.and_eq_true_iff.1 h1.2;subst ha;exact zOf hi h1.1 h2.1 h2.2 hQ (Or.inl ⟨hw,hy⟩) hS h
theorem rU(i:Nat)(d:Option Nat)(h:∀K':Act->World->Prop,Shut (∀a w,(noneYet D (L.setIfInBounds i true)=true->S w)->xE P md ops Q D S fuel (L.setIfInBounds i true) a w->K' a w)->if Region.wanted ⟨d,op,ty,pos,after,guard⟩ (yielded ops a.tmps)=true then Oper.wp P ⟨d,op,ty,pos,after,guard⟩ a w K' Q else K' (a.put d undef) w)(hi:ops[i]?=some ⟨d,op,ty,pos,after,guard⟩:=by exact rfl)(hr:Region.ready md ops L=[i]:=by kernel_rfl):xE P md ops Q D S (fuel+1) L a w :=
 zEp hr Ob (xX.cons hi h xX.nil)
theorem tH(i d:Nat){v:Value}(hS:S w)(h:wpAnyH P md ops Q S fuel (L.setIfInBounds i true) a' w)(hi:ops[i]?=some ⟨some d,op,ty,pos,after,guard⟩:=by exact rfl)(hy:∀w,S w->(execOp a.eval ⟨some d,op,ty,pos,after,guard⟩).run P w=.ok (.value v) w:=by intro w q;(try dsimp only at q);go_simp;(try with_reducible rfl))(ha:a.put (some d) v=a':=by(try simp only[qA,qL,qZ,qS]);exact rfl)(hk:(Region.noSelect ops&&(Region.free md ops L i&&(Region.ready md ops L).contains i))=true:=by kernel_rfl)(hw:Region.wanted ⟨some d,op,ty,pos,after,guard⟩ (yielded ops a.tmps)=true:=by kernel_rfl)(hQ:∀c a w,Q (.panic c) (a.put (some d) v) w->Q (.panic c) a w:=by exactλ_ _ _ h=>h):wpAnyH P md ops Q S (fuel+1) L a w:=by
 have h1:=Bool.and_eq_true_iff.1 hk;have h2:=Bool.and_eq_true_iff.1 h1.2;subst ha;exact wpAnyH_take hi h1.1 h2.1 h2.2 hQ (Or.inl ⟨hw,hy⟩) hS h
theorem sH(i d:Nat)(hS:S w)(h:wpAnyH P md ops Q S fuel (L.setIfInBounds i true) a' w)(hi:ops[i]?=some ⟨some d,op,ty,pos,after,guard⟩:=by exact rfl)(ha:a.put (some d) undef=a':=by(try simp only[qA,qL,qZ,qS]);exact rfl)(hk:(Region.noSelect ops&&(Region.free md ops L i&&(Region.ready md ops L).contains i))=true:=by kernel_rfl)(hw:Region.wanted ⟨some d,op,ty,pos,after,guard⟩ (yielded ops a.tmps)=false:=by kernel_rfl)(hQ:∀c a w,Q (.panic c) (a.put (some d) undef) w->Q (.panic c) a w:=by exactλ_ _ _ h=>h):wpAnyH P md ops Q S (fuel+1) L a w:=by
 have h1:=Bool.and_eq_true_iff.1 hk;have h2:=Bool.and_eq_true_iff.1 h1.2;subst ha;exact wpAnyH_take hi h1.1 h2.1 h2.2 hQ (Or.inr ⟨hw,rfl⟩) hS h
theorem rH(i:Nat)(d:Option Nat)(h:∀K':Act->World->Prop,Shut (∀a w,S w->(S w->wpAnyH P md ops Q S fuel (L.setIfInBounds i true) a w)->K' a w)->if Region.wanted ⟨d,op,ty,pos,after,guard⟩ (yielded ops a.tmps)=true then Oper.wp P ⟨d,op,ty,pos,after,guard⟩ a w K' Q else K' (a.put d undef) w)(hi:ops[i]?=some ⟨d,op,ty,pos,after,guard⟩:=by exact rfl)(hr:Region.ready md ops L=[i]:=by kernel_rfl):wpAnyH P md ops Q S (fuel+1) L a w :=
 wpAnyH_ready hr Ob (AllReadyH.cons hi h AllReadyH.nil)
end
end Go.Proofs.YtfpjdpdmgceciaaGreatDoor
