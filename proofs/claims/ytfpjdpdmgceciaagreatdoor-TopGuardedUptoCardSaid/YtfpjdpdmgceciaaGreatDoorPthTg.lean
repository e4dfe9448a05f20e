/- Layer 12: what catches a token that can't stand. -/
import Derived.Test.YtfpjdpdmgceciaaGreatDoorPsgTg
import Derived.Recover
import Derived.KernelRfl
namespace Go.Proofs.YtfpjdpdmgceciaaGreatDoor
set_option maxRecDepth 100000
set_option maxHeartbeats 32000000
set_option linter.all false
attribute [local irreducible] Calls
attribute [local irreducible] wpStill
open Go.RowKit
abbrev fltO(e a:Int):Obj:=.cells #[.int .i64 e,.int .i64 a] 25 (0,0)
abbrev treeI(E:SynE)(fb nb rb:Nat)(e a:Int)(pv:Value)(I:List Item):List Item:=.raw fb (fltO e a)::.raw nb (.cells #[pv] 41 (0,0))::.raw rb (.cells #[ptrV E.gr] 44 (0,0))::I
@[irreducible] def CaughtQ(E:SynE)(j fb nb rb:Nat)(I:List Item):Exit->Act->World->Prop:=λe a w'=>e=.normal/\a.defers=[]/\∃x:Int,St E w' j (treeI E fb nb rb 7 x (.pointer none) I)
theorem zUy(W:World)(u:TypeId)(v:Value):(binOp .eql 20 (.iface u v) .nilIface).run Tryz.prog W=.ok (.bool false) W:=Oa
theorem yBj(W:World)(v:Value):(Instr.typeAssert (.iface 78 v) 20 78 true).run Tryz.prog W=.ok (.tuple #[v,.bool true]) W:=Oa
theorem yHt(W:World):(binOp .eql 20 .nilIface .nilIface).run Tryz.prog W=.ok (.bool true) W:=Oa
section
variable {E:SynE} {W:World} {j:Nat} {I:List Item}
theorem St.cell{b:Nat}{cs:Array Value}{T:TypeId}(h:St E W j I)(hm:.raw b (.cells cs T (0,0))∈I)(i:Nat):W.cell? ⟨b,i,none⟩=cs[i]?/\W.frozen? ⟨b,i,none⟩=false:=by
 have hr:W.heap[b]?=some (.cells cs T (0,0)):=h.ok _ hm;simp[World.cell?,World.frozen?,hr]
theorem zPz(F:SynF E){fb nb rb:Nat}{pv:Value}(h:St E W j (treeI E fb nb rb 0 0 pv I))(i:Nat)(hi:i<=1000000000) :
  CallsD Tryz.prog 33 #[ptrV rb,ptrV nb,ptrV fb] (.panicking ({ v:=.iface 78 (.int .i64 (i:Int)),recovered:=false }::[])) W λe u' w'=>e=.returned (.tuple #[])/\u'=.panicking ({ v:=.iface 78 (.int .i64 (i:Int)),recovered:=true }::[])/\∃a:Int,St E w' j (treeI E fb nb rb 7 a (.pointer none) I):=by
 have HS:=Hd h;obtain⟨q0,q1,q2,q3,-,qz⟩:=h.r.c;obtain⟨va,vc,hv,hcap,hT⟩:=F.T.below h.r.below;rw[hv]at q1;have hz:=F.sz;have hN:=F.n;have b_rb:=h.box (b:=rb) (T:=44) (v:=ptrV E.gr) (.tail _ (.tail _ (.head _)));have c_nb:=h.cell (b:=nb) (T:=41) (cs:=#[pv]) (.tail _ (.head _)) 0;have c_f0:=h.cell (b:=fb) (T:=25) (cs:=#[.int .i64 0,.int .i64 0]) (.head _) 0;have c_f1:=h.cell (b:=fb) (T:=25) (cs:=#[.int .i64 0,.int .i64 0]) (.head _) 1;simp only[List.size_toArray,lC,lN,List.getElem?_toArray,List.getElem?_cons_zero,List.getElem?_cons_succ]at c_nb c_f0 c_f1;refine callsD_of_wpS Tryz.func33 rfl λc₀ cs hu=>?_;apply wpS_seq;apply wpS_region;simp[wpOpsS,go_sem,recoverD,hu,Tryz.ntmps33,Exit.thenS];refine wpS_of_wp (Code.wp_mono (Q:=CaughtQ E j fb nb rb I) (λe a' w' hq=>?_) ?_)
 .unfold CaughtQ at hq;obtain⟨rfl,hd,hx⟩:=hq;exact⟨hd,_,rfl,.tuple #[],results_none rfl _ _ _,rfl,rfl,hx⟩
 obtain⟨n0,nz⟩:=c_nb;obtain⟨f0,fz0⟩:=c_f0;obtain⟨f1,fz1⟩:=c_f1;have g1:=(h.gt (.raw fb (fltO 0 0)) (.head _) fb rfl).1;have g2:=(h.gt (.raw nb (.cells #[pv] 41 (0,0))) (.tail _ (.head _)) nb rfl).1;have g3:=(h.gt (.raw rb (.cells #[ptrV E.gr] 44 (0,0))) (.tail _ (.tail _ (.head _))) rb rfl).1;have e1:fb≠nb:=h.ne (.head _) rfl rfl;have e2:fb≠rb:=h.ne (.tail _ (.head _)) rfl rfl;have e3:nb≠rb:=h.tl.ne (.head _) rfl rfl;have n1:E.gr≠fb:=Nat.ne_of_lt g1;have n2:E.gr≠nb:=Nat.ne_of_lt g2;have m1:fb≠E.gr:=Nat.ne_of_gt g1;have m2:nb≠E.gr:=Nat.ne_of_gt g2;have m3:rb≠nb:=Ne.symm e3;have m4:rb≠fb:=Ne.symm e2;have m5:nb≠fb:=Ne.symm e1;have HC:=Hd hu;by_cases hlt:i<E.toks.length
 .obtain⟨b,rfl,hbl,hcell⟩:=hT Z;obtain⟨-,k1,-⟩:=hcell i hlt;have hbw:b<E.w0.heap.size:=by
   obtain⟨va',vc',hv',-,hT'⟩:=F.T;obtain⟨b',hb',hl',-⟩:=hT' Z;rw[hv]at hv';cases hb'
   cases hv'
   exact hl'
  have hgr:E.w0.heap.size=E.gr:=rfl;have d1:b≠fb:=Z;have d2:b≠nb:=Z;have d3:fb≠b:=Z;have d4:nb≠b:=Z;clear hbw hgr;have hltI:(i:Int)<E.toks.length:=Z;generalize E.toks[i].2.1=fr at *;clear hcell hT hv h F hu;rw[show(#[ptrV rb,ptrV nb,ptrV fb]++(Array.replicate 31 undef).setIfInBounds 3 (Value.iface 78 (.int .i64 (i:Int))))=#[ptrV rb,ptrV nb,ptrV fb,undef,undef,undef,Value.iface 78 (.int .i64 (i:Int)),undef,undef,undef,undef,undef,undef,undef,undef,undef,undef,undef,undef,undef,undef,undef,undef,undef,undef,undef,undef,undef,undef,undef,undef,undef,undef,undef]by kernel_rfl];have h0:=zUy W 78 (.int .i64 (i:Int));have h1:=yBj W (.int .i64 (i:Int));go_wp2_with fail;unfold CaughtQ;have HA:=HS.out.put [.raw fb (fltO 0 0)] 0 (.pointer none);have HB:=HA.put [] 0 (.int .i64 7);exact⟨rfl,rfl,(fr:Int),(HB.put [] 1 (.int .i64 (E.s.size:Int))).put [] 1 (.int .i64 (fr:Int))⟩
 .have hltI:¬(i:Int)<E.toks.length:=Z;clear hT hv h F hu;rw[show(#[ptrV rb,ptrV nb,ptrV fb]++(Array.replicate 31 undef).setIfInBounds 3 (Value.iface 78 (.int .i64 (i:Int))))=#[ptrV rb,ptrV nb,ptrV fb,undef,undef,undef,Value.iface 78 (.int .i64 (i:Int)),undef,undef,undef,undef,undef,undef,undef,undef,undef,undef,undef,undef,undef,undef,undef,undef,undef,undef,undef,undef,undef,undef,undef,undef,undef,undef,undef]by kernel_rfl];have h0:=zUy W 78 (.int .i64 (i:Int));have h1:=yBj W (.int .i64 (i:Int));go_wp2_with fail;unfold CaughtQ;have HA:=HS.out.put [.raw fb (fltO 0 0)] 0 (.pointer none);have HB:=HA.put [] 0 (.int .i64 7);exact⟨rfl,rfl,(E.s.size:Int),HB.put [] 1 (.int .i64 (E.s.size:Int))⟩
theorem zXd(W:World)(fb nb rb:Nat) :
  CallsD Tryz.prog 33 #[ptrV rb,ptrV nb,ptrV fb] .returning W λe u' w'=>e=.returned (.tuple #[])/\u'=.returning/\w'=W:=by
 refine callsD_of_wpS Tryz.func33 rfl λc₀ cs hu=>?_;apply wpS_seq;apply wpS_region;simp[wpOpsS,go_sem,recoverD,hu,Tryz.ntmps33,Exit.thenS];refine wpS_of_wp (Code.wp_mono (Q:=λe a' w'=>e=.normal/\a'.defers=[]/\w'=W) (λe a' w' hq=>?_) ?_)
 .obtain⟨rfl,hd,rfl⟩:=hq;exact⟨hd,.returning,by cases c₀;simp_all,.tuple #[],results_none rfl _ _ _,rfl,rfl,rfl⟩
 rw[show(#[ptrV rb,ptrV nb,ptrV fb]++(Array.replicate 31 undef).setIfInBounds 3 Value.nilIface)=#[ptrV rb,ptrV nb,ptrV fb,undef,undef,undef,.nilIface,undef,undef,undef,undef,undef,undef,undef,undef,undef,undef,undef,undef,undef,undef,undef,undef,undef,undef,undef,undef,undef,undef,undef,undef,undef,undef,undef]by kernel_rfl];have h0:=yHt W;go_wp2_with fail
end
end Go.Proofs.YtfpjdpdmgceciaaGreatDoor
