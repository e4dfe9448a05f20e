/- The statement TopGuardedUptoCardSaid: for every input of bulk at most the given bound the call of emendtop.TopGuarded returns true and leaves its arguments as they were.
   Conditions: what its card names: the two tables of unicode/utf8 lie as the program's text lays them (the card ties them); the bound on the bulk of the arguments. -/
import Derived.Test.YtfpjdpdmgceciaaGreatDoorCards
import Derived.Test.YtfpjdpdmgceciaaGreatDoorTie
import Derived.Test.YtfpjdpdmgceciaaGreatDoorLaidTg
import Derived.Test.YtfpjdpdmgceciaaGreatDoorTopGuardedWalkTg
import Derived.Test.YtfpjdpdmgceciaaGreatDoorMaxCTg
namespace Go.Proofs.YtfpjdpdmgceciaaGreatDoor.topGuardedU
set_option maxRecDepth 100000
set_option maxHeartbeats 32000000
open Go.ChangeShapes Go.WideShapes Go.ChangeAt Go.RowKit
open Go.ChangeMaps (open_string shut_string)
theorem contract(H:Type)(enc:TypeId×Value->H)(W:World)(base:Nat)(args:Array Value)(ds gs:List (DataW H))(before:List MemPlace)(hval:∀(j:Nat) t v,Tryz.f3.params[j]?=some t->args[j]?=some v->Value.okWide Tryz.prog W .any base t v)(hW:DataW.Whole enc Tryz.prog Tryz.f3.params.toList Rows.topGuardedSpec.vars false W args.toList ds gs before)(hcond:Rows.uptoSmall H (ds++gs)=true)(hL:laidMet Tryz.prog theList W)(hsh:W.ShapedOpen Tryz.prog) :
  Calls Tryz.prog 3 args W λe W'=>∃v,e=.returned v/\Rows.topGuardedSpec.post enc Tryz.prog Tryz.f3 false true false false W args v W':=by
 have hT:=tabs hL;have hW':=hW;obtain⟨p,q,hA0,hV,rfl,hfz,hnd⟩:=hW;have hA:DataW.TrodAll enc Tryz.prog W 0 (λ_=>true) true Tryz.f3.params.toList args.toList ds p:=hA0;rw[Tryz.params3]at hA hval;obtain⟨v0,vs0,d0,ds0,p0,q0,hargs,rfl,rfl,h0,r0⟩:=trodAll_cons hA;obtain⟨v1,vs1,d1,ds1,p1,q1,rfl,rfl,rfl,h1,r1⟩:=trodAll_cons r0;obtain⟨v2,vs2,d2,ds2,p2,q2,rfl,rfl,rfl,h2,r2⟩:=trodAll_cons r1;obtain⟨rfl,rfl,rfl⟩:=trodAll_nil r2;obtain rfl:args=#[v0,v1,v2]:=by cases args;simp_all
 obtain⟨rfl,rfl⟩:=trodVars_none hV;have k0:=h0;have lt0:∀x∈p0,x.block<W.heap.size:=by obtain⟨m,hm⟩:=k0;exact DataW.trod_lt m _ _ _ hm
 have k1:=h1;have lt1:∀x∈p1,x.block<W.heap.size:=by obtain⟨m,hm⟩:=k1;exact DataW.trod_lt m _ _ _ hm
 have k2:=h2;have lt2:∀x∈p2,x.block<W.heap.size:=by obtain⟨m,hm⟩:=k2;exact DataW.trod_lt m _ _ _ hm
 obtain⟨x0,rfl,rfl,rfl,wx0⟩:=open_string Tryz.underlying9 (hval 0 9 v0 rfl rfl) h0;obtain⟨x1,rfl,rfl,rfl,wx1⟩:=open_string Tryz.underlying9 (hval 1 9 v1 rfl rfl) h1;obtain⟨x2,rfl,rfl,rfl,wx2⟩:=open_int Tryz.underlying3 (hval 2 3 v2 rfl rfl) h2;have hu:=zRz hcond;simp only[Rows.uptoBulkAll,Rows.uptoBulk,List.cons_append,List.nil_append]at hu;have sz0:x0.size<=1048576:=by have e:x0.size=x0.data.toList.length:=(Array.length_toList (xs:=x0.data)).symm;omega
 have sz1:x1.size<=1048576:=by have e:x1.size=x1.data.toList.length:=(Array.length_toList (xs:=x1.data)).symm;omega
 clear hA0;refine(TopGuarded_walk W x0 sz0 x1 sz1 x2 (bounds_i64 wx2) hT (maxC hsh)).mono λe W' ⟨he,bel⟩=>?_;subst he;exact⟨_,rfl,_,_,_,[],_,[],hW',trodAll_mk1 (shut_bool Tryz.underlying4 _),(trodAll_cons_mk (Below.trod laidOut Oa (of_decide_eq_true Oa) k0 bel lt0) (trodAll_cons_mk (Below.trod laidOut Oa (of_decide_eq_true Oa) k1 bel lt1) (trodAll_cons_mk (Below.trod laidOut Oa (of_decide_eq_true Oa) k2 bel lt2) trodAll_mk0))),rfl,bel.frame _,λh=>by cases h⟩
theorem reads(os:Os){H:Type}(enc:TypeId×Value->H):∃places,DataW.whole enc Tryz.prog ((laidWorld os).forCall (λ_ _=>0) ⟨#[],#[.string ByteArray.empty,.string ByteArray.empty,.int .i64 0],[]⟩).memory Tryz.f3.params.toList Rows.topGuardedSpec.vars false (#[.string ByteArray.empty,.string ByteArray.empty,.int .i64 0]:Array Value).toList 8=some ([.lit (.string []),.lit (.string []),.lit (.int .i64 0)],[],places) :=
 ⟨[],Oa⟩
theorem lifted(os:Os)(started:os.Started)(H:Type)(enc:TypeId×Value->H)(F:Stop.Interp) :
  ReturnsInHanded {} Tryz.checked os 3 .any ((Rows.OpenSpec.upto Rows.topGuardedSpec).preRow enc Tryz.prog Tryz.f3 Rows.topGuardedUptoRow.domain false Rows.topGuardedUptoRow.laid) (((Rows.OpenSpec.upto Rows.topGuardedSpec).at F).post enc Tryz.prog Tryz.f3 false true false false):=by
 obtain⟨places,hx⟩:=reads os enc;refine returnsInHanded_of_row (C:=Tryz.checked) (s:=(Rows.OpenSpec.upto Rows.topGuardedSpec)) own started Oa Tryz.func3
  (witness_row_at (enc:=enc) (C:=Tryz.checked) false (laidWorld os) #[.string ByteArray.empty,.string ByteArray.empty,.int .i64 0] rfl Oa Oa Oa
   (OpenSpec.preRow_of_cond 8 hx Oa (λk hk=>by cases hk;kernel_rfl) Oa (zZs os #[.string ByteArray.empty,.string ByteArray.empty,.int .i64 0]))) ?_
 intro W base args ds gs before hval hW _ hcond hsz hL hsh _;exact contract H enc W base args ds gs before hval hW (hcond _ rfl) hL hsh
theorem said:Rows.TopGuardedUptoSaid :=
 OpenClaim.holds_of_cond 3 Tryz.f3 rfl rfl rfl rfl rfl rfl rfl ⟨rfl,rfl,rfl,rfl,rfl⟩ rfl rfl rfl rfl rfl Oa Tryz.func3 Oa
  (of_decide_eq_true Oa) (by unfold Func.isWrapper;first|(rw[iP (by decide +kernel)];kernel_rfl)|(rw[iN (by decide +kernel)];exact⟨rfl,rfl⟩))
  (λos started H enc _ F=>by rw[OpenClaim.pre_eq_preRow];exact lifted os started H enc F)
theorem plain(f:FuncId)(fn:Func)(hf:Tryz.pinned.checked.prog.funcNamed Tryz.f3.name=some f)(hfn:Tryz.pinned.checked.prog.funcs[f]?=some fn) :
  true=Tryz.pinned.checked.prog.looks []/\∀(j:Nat) t,fn.params[j]?=some t->Tryz.pinned.checked.prog.wantsStandIn t=false:=by
 obtain rfl:f=3:=Option.some.inj ((show Tryz.prog.funcNamed Tryz.f3.name=some 3 by kernel_rfl).symm.trans hf) |>.symm;obtain rfl:fn=Tryz.f3:=(Option.some.inj (Tryz.func3.symm.trans hfn)).symm;refine⟨Oa,λj t ht=>?_⟩;have hm:t∈Tryz.f3.params.toList:=by simpa using Array.mem_of_getElem? ht
 rw[Tryz.params3]at hm;have hall:∀t∈[9,9,3],Tryz.prog.wantsStandIn t=false:=by
  intro t ht;simp only[List.mem_cons,List.mem_nil_iff,or_false]at ht;rcases ht with rfl|rfl|rfl;all_goals kernel_rfl
 exact hall t (by simpa using hm)
theorem card:Rows.TopGuardedUptoCardSaid :=
 Claim7.holds_tied_plain_at .later [] _ _ _ _ said (λ_ h=>by cases h) Oa (λ_ h=>by cases h) topGuardedUpto_row_tie rfl ⟨rfl,rfl⟩ Oa rfl plain Oa
end Go.Proofs.YtfpjdpdmgceciaaGreatDoor.topGuardedU
