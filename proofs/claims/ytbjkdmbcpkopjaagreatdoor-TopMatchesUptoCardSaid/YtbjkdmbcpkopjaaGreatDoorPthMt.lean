/- Layer 12: what catches a token that can't stand. -/
import Derived.Test.YtbjkdmbcpkopjaaGreatDoorPsZMt
import Derived.Recover
import Derived.KernelRfl
import Derived.Test.YtbjkdmbcpkopjaaGreatDoorPs1Mt
namespace Go.Proofs.YtbjkdmbcpkopjaaGreatDoor
set_option maxRecDepth 100000
set_option maxHeartbeats 32000000
set_option linter.all false
attribute [local irreducible] Calls
attribute [local irreducible] wpStill
open Go.RowKit

abbrev fltO (e a:Int):Obj:=.cells #[.int .i64 e,.int .i64 a] 28 (0,0)
abbrev treeI (E:SynE) (fb nb rb:Nat) (e a:Int) (pv:Value) (I:List Item):List Item:=.raw fb (fltO e a)::.raw nb (.cells #[pv] 61 (0,0))::.raw rb (.cells #[ptrV E.gr] 64 (0,0))::I
@[irreducible] def CaughtQ (E:SynE) (j fb nb rb:Nat) (I:List Item):Exit→Act→World→Prop:=fun e a w'=>e=.normal∧a.defers=[]∧∃ x:Int,St E w' j (treeI E fb nb rb 7 x (.pointer none) I)
theorem zTe (W:World) (u:TypeId) (v:Value):(binOp .eql 20 (.iface u v) .nilIface).run Tryz.prog W=.ok (.bool false) W:=by kernel_rfl
theorem zYx (W:World) (v:Value):(Instr.typeAssert (.iface 95 v) 20 95 true).run Tryz.prog W=.ok (.tuple #[v,.bool true]) W:=by kernel_rfl
theorem yCz (W:World):(binOp .eql 20 .nilIface .nilIface).run Tryz.prog W=.ok (.bool true) W:=by kernel_rfl
section
variable {E:SynE} {W:World} {j:Nat} {I:List Item}
theorem St.cell {b:Nat} {cs:Array Value} {T:TypeId} (h:St E W j I) (hm:.raw b (.cells cs T (0,0))∈I) (i:Nat):W.cell? ⟨b,i,none⟩=cs[i]?∧W.frozen? ⟨b,i,none⟩=false:=by
 have hr:W.heap[b]?=some (.cells cs T (0,0)):=h.ok _ hm;simp [World.cell?,World.frozen?,hr]
theorem zOj (F:SynF E) {fb nb rb:Nat} {pv:Value} (h:St E W j (treeI E fb nb rb 0 0 pv I)) (i:Nat) (hi:i≤1000000000) :
  CallsD Tryz.prog 38 #[ptrV rb,ptrV nb,ptrV fb] (.panicking ({ v:=.iface 95 (.int .i64 (i:Int)),recovered:=false }::[])) W fun e u' w'=>e=.returned (.tuple #[])∧u'=.panicking ({ v:=.iface 95 (.int .i64 (i:Int)),recovered:=true }::[])∧∃ a:Int,St E w' j (treeI E fb nb rb 7 a (.pointer none) I):=by
 have HS:=Hd h;obtain ⟨q0,q1,q2,q3,-,qz⟩:=h.r.c;obtain ⟨va,vc,hv,hcap,hT⟩:=F.T.below h.r.below;rw [hv] at q1;have hz:=F.sz;have hN:=F.n;have b_rb:=h.box (b:=rb) (T:=64) (v:=ptrV E.gr) (.tail _ (.tail _ (.head _)));have c_nb:=h.cell (b:=nb) (T:=61) (cs:=#[pv]) (.tail _ (.head _)) 0;have c_f0:=h.cell (b:=fb) (T:=28) (cs:=#[.int .i64 0,.int .i64 0]) (.head _) 0;have c_f1:=h.cell (b:=fb) (T:=28) (cs:=#[.int .i64 0,.int .i64 0]) (.head _) 1;simp only [List.size_toArray,lC,lN,List.getElem?_toArray,List.getElem?_cons_zero,List.getElem?_cons_succ] at c_nb c_f0 c_f1;refine callsD_of_wpS Tryz.func38 rfl fun c₀ cs hu=>?_;apply wpS_seq;apply wpS_region;simp [wpOpsS,go_sem,recoverD,hu,Tryz.ntmps38,Exit.thenS];refine wpS_of_wp (Code.wp_mono (Q:=CaughtQ E j fb nb rb I) (fun e a' w' hq=>?_) ?_)
 ·unfold CaughtQ at hq;obtain ⟨rfl,hd,hx⟩:=hq;exact ⟨hd,_,rfl,.tuple #[],results_none rfl _ _ _,rfl,rfl,hx⟩
 obtain ⟨n0,nz⟩:=c_nb;obtain ⟨f0,fz0⟩:=c_f0;obtain ⟨f1,fz1⟩:=c_f1;have g1:=(h.gt (.raw fb (fltO 0 0)) (.head _) fb rfl).1;have g2:=(h.gt (.raw nb (.cells #[pv] 61 (0,0))) (.tail _ (.head _)) nb rfl).1;have g3:=(h.gt (.raw rb (.cells #[ptrV E.gr] 64 (0,0))) (.tail _ (.tail _ (.head _))) rb rfl).1;have e1:fb≠nb:=h.ne (.head _) rfl rfl;have e2:fb≠rb:=h.ne (.tail _ (.head _)) rfl rfl;have e3:nb≠rb:=h.tl.ne (.head _) rfl rfl;have n1:E.gr≠fb:=Nat.ne_of_lt g1;have n2:E.gr≠nb:=Nat.ne_of_lt g2;have m1:fb≠E.gr:=Nat.ne_of_gt g1;have m2:nb≠E.gr:=Nat.ne_of_gt g2;have m3:rb≠nb:=Ne.symm e3;have m4:rb≠fb:=Ne.symm e2;have m5:nb≠fb:=Ne.symm e1;have HC:=Hd hu;by_cases hlt:i<E.toks.length
 ·obtain ⟨b,rfl,hbl,hcell⟩:=hT (by omega);obtain ⟨-,k1,-⟩:=hcell i hlt;have hbw:b<E.w0.heap.size:=by
   obtain ⟨va',vc',hv',-,hT'⟩:=F.T;obtain ⟨b',hb',hl',-⟩:=hT' (by omega);rw [hv] at hv';cases hb'
   cases hv'
   exact hl'
  have hgr:E.w0.heap.size=E.gr:=rfl;have d1:b≠fb:=by omega
  have d2:b≠nb:=by omega
  have d3:fb≠b:=by omega
  have d4:nb≠b:=by omega
  clear hbw hgr;have hltI:(i:Int)<E.toks.length:=by omega
  generalize E.toks[i].2.1=fr at *;clear hcell hT hv h F hu;rw [show (#[ptrV rb,ptrV nb,ptrV fb]++(Array.replicate 31 undef).setIfInBounds 3 (Value.iface 95 (.int .i64 (i:Int))))=#[ptrV rb,ptrV nb,ptrV fb,undef,undef,undef,Value.iface 95 (.int .i64 (i:Int)),undef,undef,undef,undef,undef,undef,undef,undef,undef,undef,undef,undef,undef,undef,undef,undef,undef,undef,undef,undef,undef,undef,undef,undef,undef,undef,undef] by kernel_rfl];have h0:=zTe W 95 (.int .i64 (i:Int));have h1:=zYx W (.int .i64 (i:Int));go_wp2_with fail;unfold CaughtQ;have HA:=HS.out.put [.raw fb (fltO 0 0)] 0 (.pointer none);have HB:=HA.put [] 0 (.int .i64 7);exact ⟨rfl,rfl,(fr:Int),(HB.put [] 1 (.int .i64 (E.s.size:Int))).put [] 1 (.int .i64 (fr:Int))⟩
 ·have hltI:¬ (i:Int)<E.toks.length:=by omega
  clear hT hv h F hu;rw [show (#[ptrV rb,ptrV nb,ptrV fb]++(Array.replicate 31 undef).setIfInBounds 3 (Value.iface 95 (.int .i64 (i:Int))))=#[ptrV rb,ptrV nb,ptrV fb,undef,undef,undef,Value.iface 95 (.int .i64 (i:Int)),undef,undef,undef,undef,undef,undef,undef,undef,undef,undef,undef,undef,undef,undef,undef,undef,undef,undef,undef,undef,undef,undef,undef,undef,undef,undef,undef] by kernel_rfl];have h0:=zTe W 95 (.int .i64 (i:Int));have h1:=zYx W (.int .i64 (i:Int));go_wp2_with fail;unfold CaughtQ;have HA:=HS.out.put [.raw fb (fltO 0 0)] 0 (.pointer none);have HB:=HA.put [] 0 (.int .i64 7);exact ⟨rfl,rfl,(E.s.size:Int),HB.put [] 1 (.int .i64 (E.s.size:Int))⟩
theorem zVd (W:World) (fb nb rb:Nat) :
  CallsD Tryz.prog 38 #[ptrV rb,ptrV nb,ptrV fb] .returning W fun e u' w'=>e=.returned (.tuple #[])∧u'=.returning∧w'=W:=by
 refine callsD_of_wpS Tryz.func38 rfl fun c₀ cs hu=>?_;apply wpS_seq;apply wpS_region;simp [wpOpsS,go_sem,recoverD,hu,Tryz.ntmps38,Exit.thenS];refine wpS_of_wp (Code.wp_mono (Q:=fun e a' w'=>e=.normal∧a'.defers=[]∧w'=W) (fun e a' w' hq=>?_) ?_)
 ·obtain ⟨rfl,hd,rfl⟩:=hq;exact ⟨hd,.returning,by cases c₀;simp_all,.tuple #[],results_none rfl _ _ _,rfl,rfl,rfl⟩
 rw [show (#[ptrV rb,ptrV nb,ptrV fb]++(Array.replicate 31 undef).setIfInBounds 3 Value.nilIface)=#[ptrV rb,ptrV nb,ptrV fb,undef,undef,undef,.nilIface,undef,undef,undef,undef,undef,undef,undef,undef,undef,undef,undef,undef,undef,undef,undef,undef,undef,undef,undef,undef,undef,undef,undef,undef,undef,undef,undef] by kernel_rfl];have h0:=yCz W;go_wp2_with fail
end
def awT:ByteArray:=⟨#[97,32,43,32,98,32,47,42,32,99,32,42,47]⟩
def awL:List (Int×Nat×Nat):=[(1,0,1),(8,2,3),(1,4,5),(9,5,5)]
def awP:List Prt:=[(37,2,⟨#[43]⟩),(26,0,⟨#[97]⟩),(26,0,⟨#[98]⟩)]
structure Aw (E:SynE):Prop where
 s:E.s=awT
 t:E.toks=awL
theorem Aw.N {E:SynE} (h:Aw E):E.N=4:=by unfold SynE.N;rw [h.t];rfl
theorem Aw.f {E:SynE} (h:Aw E):wordZ E 0=⟨#[]⟩∧wordZ E 1=⟨#[43]⟩∧wordZ E 2=⟨#[]⟩∧wordZ E 3=⟨#[59]⟩∧litK E 0=false∧litK E 2=false∧namedB E 0=true∧namedB E 2=true∧sumP E 0=awP:=by
 obtain ⟨s,t,p,v,u,w⟩:=E;obtain ⟨h1,h2⟩:=h;simp only at h1 h2;subst h1;subst h2;exact ⟨by kernel_rfl,by kernel_rfl,by kernel_rfl,by kernel_rfl,by kernel_rfl,by kernel_rfl,by kernel_rfl,by kernel_rfl,by kernel_rfl⟩
theorem yBm {E:SynE} (h:Aw E) (HF:Hid (SynF E)) {W:World} {I:List Item} (HS:Hid (St E W 0 I)):Calls Tryz.prog 40 #[ptrV E.gr] W (PX E I 3 awP):=by
 obtain ⟨w0,w1,w2,w3,l0,l2,n0,n2,hp⟩:=h.f;have:=yCu HF HS ⟨l0,by rw [show ((0:Nat):Int)=0 from rfl,w0];decide +kernel,n0⟩ (fun i hi=>by subst hi;exact ⟨l2,by rw [show ((0+2:Nat):Int)=2 from rfl,w2];decide +kernel,n2⟩) (fun i hi=>by subst hi;rw [show ((0+1:Nat):Int)=1 from rfl,w1];decide +kernel) (fun i hi=>by subst hi;rw [show ((0+3:Nat):Int)=3 from rfl,w3];decide +kernel);rw [hp] at this;exact this
@[irreducible] def TR (E:SynE) (I:List Item) (X:Prop) (e:Ending) (W':World):Prop :=
 (∃ g k gs ps,∃ i:Nat,e=.returned (.tuple #[ptrV g,.agg #[.int .i64 0,.int .i64 0]])∧St E W' i (.done g k gs ps::I)∧(ps.length:Int)≤8*(E.N:Int)+10∧(X→ps=awP)) ∨
 (∃ a:Int,∃ i:Nat,e=.returned (.tuple #[.pointer none,.agg #[.int .i64 7,.int .i64 a]])∧St E W' i I∧¬ X)
abbrev doorD (fb nb rb:Nat):List Deferred:=[{ target:=.fn (.func 38) #[ptrV rb,ptrV nb,ptrV fb],args:=#[] }]
section
variable {E:SynE} {W:World} {j:Nat} {I:List Item} {X:Prop}
theorem zVe (F:SynF E) {fb nb rb:Nat} {pv:Value} (h:St E W j (treeI E fb nb rb 0 0 pv I)) (hx:¬ X) (i:Nat) (hi:i≤1000000000) (tmps:Array Value) (h4:tmps[4]?=some (ptrV nb)) (h5:tmps[5]?=some (ptrV fb)) :
  Leaves Tryz.prog Tryz.f28 tmps (TR E I X) (doorD fb nb rb) (.panicking [{ v:=.iface 95 (.int .i64 (i:Int)),recovered:=false }]) W:=by
 refine leaves_cons (f:=38) (args:=#[ptrV rb,ptrV nb,ptrV fb]) (by simp) (by simp [go_sem]) ?_;refine (zOj F h i hi).mono ?_;rintro e u' w' ⟨rfl,rfl,a,hs⟩;have c_nb:=hs.cell (b:=nb) (T:=61) (cs:=#[.pointer none]) (.tail _ (.head _)) 0;have c_f0:=hs.cell (b:=fb) (T:=28) (cs:=#[.int .i64 7,.int .i64 a]) (.head _) 0;have c_f1:=hs.cell (b:=fb) (T:=28) (cs:=#[.int .i64 7,.int .i64 a]) (.head _) 1;simp only [List.size_toArray,lC,lN,List.getElem?_toArray,List.getElem?_cons_zero,List.getElem?_cons_succ] at c_nb c_f0 c_f1;have hT:TR E I X (.returned (.tuple #[.pointer none,.agg #[.int .i64 7,.int .i64 a]])) w':=by
  unfold TR;exact Or.inr ⟨a,j,rfl,hs.tl.tl.tl,hx⟩
 generalize TR E I X=Q at *;simp [Leaves,settle,results,Tryz.results28,go_sem,h4,h5,c_nb,c_f0,c_f1,hT]
theorem zYy {fb nb rb:Nat} {g k:Nat} {gs:List Nat} {ps:List Prt} (h:St E W j (treeI E fb nb rb 0 0 (ptrV g) (.done g k gs ps::I))) (hp:(ps.length:Int)≤8*(E.N:Int)+10) (hx:X→ps=awP) (tmps:Array Value) (h4:tmps[4]?=some (ptrV nb)) (h5:tmps[5]?=some (ptrV fb)) :
  Leaves Tryz.prog Tryz.f28 tmps (TR E I X) (doorD fb nb rb) .returning W:=by
 refine leaves_cons (f:=38) (args:=#[ptrV rb,ptrV nb,ptrV fb]) (by simp) (by simp [go_sem]) ?_;refine (zVd W fb nb rb).mono ?_;rintro e u' w' ⟨rfl,rfl,rfl⟩;have c_nb:=h.cell (b:=nb) (T:=61) (cs:=#[ptrV g]) (.tail _ (.head _)) 0;have c_f0:=h.cell (b:=fb) (T:=28) (cs:=#[.int .i64 0,.int .i64 0]) (.head _) 0;have c_f1:=h.cell (b:=fb) (T:=28) (cs:=#[.int .i64 0,.int .i64 0]) (.head _) 1;simp only [List.size_toArray,lC,lN,List.getElem?_toArray,List.getElem?_cons_zero,List.getElem?_cons_succ] at c_nb c_f0 c_f1;have hT:TR E I X (.returned (.tuple #[ptrV g,.agg #[.int .i64 0,.int .i64 0]])) w':=by
  unfold TR;exact Or.inl ⟨g,k,gs,ps,j,rfl,h.tl.tl.tl,hp,hx⟩
 generalize TR E I X=Q at *;simp [Leaves,settle,results,Tryz.results28,go_sem,h4,h5,c_nb,c_f0,c_f1,hT]
@[irreducible] def trRel (E:SynE) (fb nb rb:Nat) (I:List Item) (X:Prop) (n:Nat) (W:World):Prop :=
 ∃ g k gs ps,∃ i:Nat,St E W i (treeI E fb nb rb 0 0 (ptrV g) (.done g k gs ps::I))∧(ps.length:Int)≤8*(E.N:Int)+10∧(X→i=n∧ps=awP)
theorem yBn {fb nb rb:Nat} {pv:Value} {x:Item} (h:St E W j (treeI E fb nb rb 0 0 pv (x::I))):St E W j (treeI E fb nb rb 0 0 pv I) :=
 h.sub (((List.sublist_cons_self _ _).cons_cons _).cons_cons _ |>.cons_cons _)
theorem zOk {fb nb rb g k i:Nat} {gs:List Nat} {ps:List Prt} {a:Int} (h:St E W i (.done g k gs ps::treeI E fb nb rb 0 0 (.pointer none) I)) (ha:a≤10) (hz:(ps.length:Int)≤8*((i:Int)-j)+a) {n:Nat} (hx:X→i=n∧ps=awP):trRel E fb nb rb I X n (W.setCell ⟨nb,0,none⟩ (ptrV g)):=by
 have:=h.r.le;unfold trRel;refine ⟨g,k,gs,ps,i,(h.put [.done g k gs ps,.raw fb (fltO 0 0)] 0 (ptrV g)).perm ?_,by omega,hx⟩;exact (List.perm_middle (l₁:=[Item.raw fb (fltO 0 0),Item.raw nb (.cells #[ptrV g] 61 (0,0)),Item.raw rb (.cells #[ptrV E.gr] 64 (0,0))]))
theorem zYz (F:SynF E) (h:St E W 0 I) (gl:Nat) (hg:1≤gl∧gl≤4):Calls Tryz.prog 28 #[ptrV E.gr,.int .u8 (gl:Int)] W (TR E I (Aw E∧gl=2)):=by
 have hsz:E.gr<W.heap.size:=h.r.lt;have HS:=Hd (((h.new (.cells #[ptrV E.gr] 64)).new (.cells #[.pointer none] 61)).new (.cells #[.int .i64 0,.int .i64 0] 28));have HF:=Hd F;have HI:=Hd (IH.all F (64*(E.N-0)+40));have HFI:=Hd (fun W I (h:St E W 0 I)=>zYw HF (Hd (IH.all F (64*(E.N-0)+2))) (Hd h) (by omega));have hN:=SynF.N HF;have HX:Hid (∀ X:Prop,X=(Aw E∧gl=2)→(X→Aw E∧gl=2)∧(gl≠2→¬ X)∧(¬ Aw E→¬ X)):=Hd fun X e=>by subst e;exact ⟨id,fun h x=>h x.2,fun h x=>h x.1⟩
 obtain ⟨X,hX⟩:∃ X:Prop,X=(Aw E∧gl=2):=⟨_,rfl⟩;have HD:=Hd (fun (hx:¬ X) W j I fb nb rb pv (h:St E W j (treeI E fb nb rb 0 0 pv I)) (i:Nat) (hi:i≤1000000000) tmps h4 h5=>zVe F h hx i hi tmps h4 h5);have HO:=Hd (fun W j I fb nb rb g k gs ps (h:St E W j (treeI E fb nb rb 0 0 (ptrV g) (.done g k gs ps::I))) hp (hx:X→ps=awP) tmps h4 h5=>zYy h hp hx tmps h4 h5);rw [← hX];obtain ⟨x1,x2,x3⟩:=HX.out X hX;clear h F HX hX
 go_enter_defers Tryz.func28,Tryz.ntmps28
 go_upto_block 0 with (fail);have HS0:Hid (St E (((W.alloc (.cells #[ptrV E.gr] 64)).alloc (.cells #[.pointer none] 61)).alloc (.cells #[.int .i64 0,.int .i64 0] 28)) 0 (treeI E (W.heap.size+1+1) (W.heap.size+1) W.heap.size 0 0 (.pointer none) I)):=Hd (by have:=HS.out;simpa using this);clear HS hsz;generalize (((W.alloc (.cells #[ptrV E.gr] 64)).alloc (.cells #[.pointer none] 61)).alloc (.cells #[.int .i64 0,.int .i64 0] 28))=w0 at *;generalize W.heap.size+1+1=fb at *;generalize W.heap.size+1=nb at *;generalize W.heap.size=rb at *;have b_rb:=HS0.out.box (b:=rb) (T:=64) (v:=ptrV E.gr) t2;have z_nb:=HS0.out.boxz (b:=nb) (T:=61) (v:=.pointer none) t1;go_cut [7] from 8 (fun v W=>v=.int .u8 (gl:Int)∧trRel E fb nb rb I X 3 W)
 case first =>
  have hgl:gl=1∨(gl=2∧¬ Aw E)∨gl=3∨gl=4∨(gl=2∧Aw E):=by
   by_cases hA:Aw E
   ·have:gl=1∨gl=2∨gl=3∨gl=4:=by omega
    rcases this with h | h | h | h <;> simp [h,hA]
   ·have:gl=1∨gl=2∨gl=3∨gl=4:=by omega
    rcases this with h | h | h | h <;> simp [h,hA]
  clear hg x1;rcases hgl with rfl | ⟨rfl,hA⟩ | rfl | rfl | ⟨rfl,hA⟩
  ·have nx:=Hd (x2 (by decide));clear x2 x3;go_wp2_with fail;refine mV (HI.out.typ _ _ _ HS0.out (by omega)) (fun i W' hs=>by dsimp only [panE];refine HD.out nx.out _ _ _ _ _ _ _ hs i (by have:=hs.r.le;omega) _ ?_ ?_ <;> rfl) fun g1 k1 s1 p1 i1 w1 HS1 hz1=>?_;clear z_nb b_rb;have z_nb:=HS1.out.boxz (b:=nb) (T:=61) (v:=.pointer none) t2;have b_nb:=HS1.out.box (b:=nb) (T:=61) (v:=.pointer none) t2;go_wp2_with fail;go_meet
   case rel=>exact ⟨rfl,zOk (a:=-7) HS1.out (by omega) hz1.2.2.2 (fun h=>absurd h nx.out)⟩
  ·have nx:=Hd (x3 hA);clear x2 x3;go_wp2_with fail;refine mV (HI.out.expr _ _ _ HS0.out (by omega)) (fun i W' hs=>by dsimp only [panE];refine HD.out nx.out _ _ _ _ _ _ _ hs i (by have:=hs.r.le;omega) _ ?_ ?_ <;> rfl) fun g1 k1 s1 p1 i1 w1 HS1 hz1=>?_;clear z_nb b_rb;have z_nb:=HS1.out.boxz (b:=nb) (T:=61) (v:=.pointer none) t2;have b_nb:=HS1.out.box (b:=nb) (T:=61) (v:=.pointer none) t2;go_wp2_with fail;go_meet
   case rel=>exact ⟨rfl,zOk (a:=-7) HS1.out (by omega) hz1.2.2.2 (fun h=>absurd h nx.out)⟩
  ·have nx:=Hd (x2 (by decide));clear x2 x3;go_wp2_with fail;refine mV (HI.out.stmts _ _ _ HS0.out (by omega)) (fun i W' hs=>by dsimp only [panE];refine HD.out nx.out _ _ _ _ _ _ _ hs i (by have:=hs.r.le;omega) _ ?_ ?_ <;> rfl) fun g1 k1 s1 p1 i1 w1 HS1 hz1=>?_;clear z_nb b_rb;have z_nb:=HS1.out.boxz (b:=nb) (T:=61) (v:=.pointer none) t2;have b_nb:=HS1.out.box (b:=nb) (T:=61) (v:=.pointer none) t2;go_wp2_with fail;go_meet
   case rel=>exact ⟨rfl,zOk (a:=1) HS1.out (by omega) hz1.2.2.2 (fun h=>absurd h nx.out)⟩
  ·have nx:=Hd (x2 (by decide));clear x2 x3;go_wp2_with fail;refine mV (HFI.out _ _ HS0.out) (fun i W' hs=>by dsimp only [panE];refine HD.out nx.out _ _ _ _ _ _ _ hs i (by have:=hs.r.le;omega) _ ?_ ?_ <;> rfl) fun g1 k1 s1 p1 i1 w1 HS1 hz1=>?_;clear z_nb b_rb;have z_nb:=HS1.out.boxz (b:=nb) (T:=61) (v:=.pointer none) t2;have b_nb:=HS1.out.box (b:=nb) (T:=61) (v:=.pointer none) t2;go_wp2_with fail;go_meet
   case rel=>exact ⟨rfl,zOk (a:=10) HS1.out (by omega) hz1.2.2.2 (fun h=>absurd h nx.out)⟩
  ·have HA:=Hd (yBm hA HF HS0);have hN4:=hA.N;clear x2 x3 hA;go_wp2_with fail;refine xV HA.out fun g1 k1 s1 i1 w1 HS1 hi1=>?_;clear z_nb b_rb;have z_nb:=HS1.out.boxz (b:=nb) (T:=61) (v:=.pointer none) t2;have b_nb:=HS1.out.box (b:=nb) (T:=61) (v:=.pointer none) t2;go_wp2_with fail;go_meet
   case rel=>exact ⟨rfl,zOk (j:=0) (a:=3) HS1.out (by omega) (by rw [hi1.out];decide) (fun _=>⟨hi1.out,rfl⟩)⟩
 obtain ⟨rfl,hcut⟩:=hcut;unfold trRel at hcut;obtain ⟨g,k,gs,ps,i,hst,hp,hx⟩:=hcut;have HS2:=Hd hst;clear hst HS0 b_rb z_nb HI HFI;generalize wc=w2 at *;have b_rb:=HS2.out.box (b:=rb) (T:=64) (v:=ptrV E.gr) t2;obtain ⟨q0,q1,q2,q3,-,qz⟩:=HS2.out.r.c;obtain ⟨va,vc,hv,hcap,hT⟩:=HF.out.T;rw [hv] at q1;clear hT;have hi:=HS2.out.r.le;go_upto_region 10 with (fail);go_cut [36] from 22 to 36 (fun v W=>Below w2.heap.size w2 W∧∃ b:Bool,v=.bool b∧(X→b=true))
 case first =>
  by_cases hXX:X
  ·obtain ⟨hA,rfl⟩:=x1 hXX;obtain ⟨rfl,-⟩:=hx hXX;have hl4:E.toks.length=4:=hA.N;rw [hl4] at q1;clear hA;go_region;go_wp2_with fail;go_meet
   case rel=>exact ⟨below_drewN (bR _ _) _,_,rfl,fun _=>rfl⟩
  ·have hXX:=Hd hXX;by_cases hgl:gl≤2
   ·have hglI:(gl:Int)≤2:=by omega
    go_region;go_wp2_with fail;go_meet
    case rel=>exact ⟨below_drewN (bR _ _) _,_,rfl,fun h=>absurd h hXX.out⟩
   ·have hglI:¬ (gl:Int)≤2:=by omega
    go_region;go_wp2_with fail;go_meet
    case rel=>exact ⟨below_drewN (bR _ _) _,_,rfl,fun h=>absurd h hXX.out⟩
 obtain ⟨hb,b,rfl,hxb⟩:=hcut;have HS3:=Hd (HS2.out.ext hb);clear hb HS2 b_rb q0 q1 q2 q3 qz;generalize wc=w3 at *;have b_rb:=HS3.out.box (b:=rb) (T:=64) (v:=ptrV E.gr) t2;have HW4:Hid (X→isW E i [59]=true):=Hd fun h=>by
  obtain ⟨rfl,-⟩:=hx h;unfold isW;rw [show ((3:Nat):Int)=3 from rfl,(x1 h).1.f.2.2.2.1];decide +kernel
 have HX3:=Hd hx;have HXB:=Hd hxb;clear hx hxb;go_upto_if 36 with (fail);go_cut [37] from 38 to 39 (fun _ W=>trRel E fb nb rb I X 4 W)
 case first =>
  cases b with
  | true =>
   go_wp2_with fail;refine (zJq HF.out HS3.out [59] (by decide)).mono ?_;intro e w4 h4;unfold PM at h4;obtain ⟨rfl,h4⟩:=h4;have HS4:=Hd h4;clear h4;go_wp2_with fail;go_meet
   case rel=>unfold trRel;exact ⟨g,k,gs,ps,_,HS4.out,hp,fun h=>⟨by rw [HW4.out h,(HX3.out h).1];rfl,(HX3.out h).2⟩⟩
  | false =>
   go_wp2_with fail;go_meet
   case rel=>unfold trRel;exact ⟨g,k,gs,ps,i,HS3.out,hp,fun h=>absurd (HXB.out h) (by decide)⟩
 unfold trRel at hcut;clear HS3 b_rb hi hv hcap hp HW4 HX3 HXB;obtain ⟨g5,k5,gs5,ps5,i5,hst,hp5,hx5⟩:=hcut;have HS5:=Hd hst;have hi5:=hst.r.le;have HXE:Hid (endedB E i5=false→¬ X):=Hd fun h hXX=>by
  unfold endedB at h;rw [(hx5 hXX).1,(x1 hXX).1.N] at h;simp at h
 have HX5:=Hd (fun h=>(hx5 h).2);clear hst hx5 x1 x2 x3;generalize wc=w5 at *;have b_rb:=HS5.out.box (b:=rb) (T:=64) (v:=ptrV E.gr) t2;go_wp2_with fail;refine mQ (gW HF.out HS5.out.r) HS5 fun w6 HS6=>?_;clear HS5 b_rb;have b_rb:=HS6.out.box (b:=rb) (T:=64) (v:=ptrV E.gr) t2;cases hen:endedB E i5 with
 | false =>
  go_wp2_with fail;refine (gX HS6.out.r).mono ?_;rintro e w7 ⟨rfl,hb⟩;exact HD.out (HXE.out hen) _ _ _ _ _ _ _ (yBn (HS6.out.ext hb)) i5 (by omega) _ rfl rfl
 | true =>
  have c_nb:=HS6.out.cell (b:=nb) (T:=61) (cs:=#[ptrV g5]) t1 0;have c_f0:=HS6.out.cell (b:=fb) (T:=28) (cs:=#[.int .i64 0,.int .i64 0]) t0 0;have c_f1:=HS6.out.cell (b:=fb) (T:=28) (cs:=#[.int .i64 0,.int .i64 0]) t0 1;simp only [List.size_toArray,lC,lN,List.getElem?_toArray,List.getElem?_cons_zero,List.getElem?_cons_succ] at c_nb c_f0 c_f1;obtain ⟨n0,nz⟩:=c_nb;obtain ⟨f0,fz0⟩:=c_f0;obtain ⟨f1,fz1⟩:=c_f1;have e1:fb≠nb:=HS6.out.ne t0 rfl rfl;have m5:nb≠fb:=Ne.symm e1;clear hen HXE;go_upto_region 14 with (fail);go_region;go_wp2_with fail;exact HO.out _ _ _ _ _ _ _ _ _ _ ((((HS6.out.put [.raw fb (fltO 0 0)] 0 (ptrV g5)).put [] 0 (.int .i64 0)).put [] 1 (.int .i64 0)).ext (bR _ _).drew) hp5 HX5.out _ rfl rfl
end
end Go.Proofs.YtbjkdmbcpkopjaaGreatDoor
