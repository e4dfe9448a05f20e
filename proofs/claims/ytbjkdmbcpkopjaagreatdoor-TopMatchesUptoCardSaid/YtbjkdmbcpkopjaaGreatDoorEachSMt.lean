/- Layer 18: what find.each holds in memory. -/
import Derived.Test.YtbjkdmbcpkopjaaGreatDoorMapUMt
import Derived.Test.YtbjkdmbcpkopjaaGreatDoorRulesVMt
import Derived.Test.YtbjkdmbcpkopjaaGreatDoorRefMAMt
import Derived.Test.YtbjkdmbcpkopjaaGreatDoorRuleCheckMt
import Derived.Test.YtbjkdmbcpkopjaaGreatDoorRangeMMt
import Derived.Test.YtbjkdmbcpkopjaaGreatDoorUntilMt
import Derived.Test.YtbjkdmbcpkopjaaGreatDoorCoreMt
import Derived.Test.YtbjkdmbcpkopjaaGreatDoorAtMt
import Derived.Test.YtbjkdmbcpkopjaaGreatDoorRuleVMt
import Derived.Test.YtbjkdmbcpkopjaaGreatDoorChkPMt
import Derived.Test.YtbjkdmbcpkopjaaGreatDoorStillMt
import Derived.RangeFuncCalls
import Derived.RangeFuncLeaves
import Derived.Shelf.Abstract
import Derived.Shelf.RegionOpen
import Derived.OwnWalkIn
import Derived.TacticsInMore
import Derived.LoopNIn
import Derived.LoopIn
namespace Go.Proofs.YtbjkdmbcpkopjaaGreatDoor
set_option linter.all false
open Go.RowKit

abbrev MchX:=Mch×Value
def mchV (x:MchX):List Value:=[.int .i64 (x.1.1:Int),.int .i64 (x.1.2.1:Int),x.2]
def mchsV (xs:List MchX):List Value:=xs.flatMap mchV
theorem zQg (xs:List MchX) (x:MchX):mchsV (xs++[x])=mchsV xs++mchV x:=by simp [mchsV]
def encM (x:MchX):Array Value:=#[.agg #[.int .i64 (x.1.1:Int),.int .i64 (x.1.2.1:Int),x.2]]
def MemM (B:Nat) (x:MchX) (W:World):Prop:=W.ownsRow B 46 3 x.2 x.1.2.2.length (bindsV x.1.2.2)
def MemR (B n:Nat) (x:MchX) (W:World):Prop:=MemM B x W∧x.1.1<n
structure KpF (B:Nat) (bx:Option Nat) (W W':World):Prop where
 os:W'.os=W.os
 tape:W'.tape=W.tape
 output:W'.output=W.output
 size:W.heap.size≤W'.heap.size
 low:∀ k,k<B→k<W.heap.size→W'.heap[k]?=W.heap[k]?
 cells:∀ k cs T fr,W.heap[k]?=some (.cells cs T fr)→T≠44→T≠34→some k≠bx→W'.heap[k]?=W.heap[k]?
theorem KpF.of_below {B:Nat} {bx:Option Nat} {W W':World} (h:Below W.heap.size W W'):KpF B bx W W' :=
 ⟨h.os,h.tape,h.output,h.size,fun k _ hk=>h.block k hk,fun k cs T fr hc _ _ _=>h.block k (zG hc)⟩
theorem KpF.trans {B:Nat} {bx:Option Nat} {a b c:World} (h:KpF B bx a b) (k:KpF B bx b c):KpF B bx a c :=
 ⟨k.os.trans h.os,k.tape.trans h.tape,k.output.trans h.output,Nat.le_trans h.size k.size,fun i h1 h2=>(k.low i h1 (Nat.lt_of_lt_of_le h2 h.size)).trans (h.low i h1 h2),
  fun i cs T fr hc h1 h2 h3=>by
   have e:=h.cells i cs T fr hc h1 h2 h3;exact (k.cells i cs T fr (e.trans hc) h1 h2 h3).trans e⟩
theorem KpF.put {B:Nat} {bx:Option Nat} {W:World} {D:Nat} {r:Loop} (o:Obj) (hB:B≤D) (h:W.heap[D]?=some (.loop r)):KpF B bx W (W.putObj D o) :=
 ⟨rfl,rfl,rfl,by simp [World.putObj],fun k h1 _=>World.putObj_heap_other (by omega),fun k cs T fr hc _ _ _=>World.putObj_heap_other (fun e=>by subst e;rw [h] at hc;cases hc)⟩
theorem KpF.below {bx:Option Nat} {w W W':World} (hb:Below w.heap.size w W) (h:KpF w.heap.size bx W W'):Below w.heap.size w W' :=
 ⟨h.os.trans hb.os,h.tape.trans hb.tape,h.output.trans hb.output,Nat.le_trans hb.size h.size,fun k hk=>(h.low k hk (Nat.lt_of_lt_of_le hk hb.size)).trans (hb.block k hk)⟩
theorem KpF.row {B:Nat} {bx:Option Nat} {W W':World} (h:KpF B bx W W') {C:Nat} {e:TypeId} {size n:Nat} {v:Value} {xs:List Value} (hr:W.ownsRow C e size v n xs) (h1:e≠44) (h2:e≠34) (hx:∀ k,bx=some k→k<C):W'.ownsRow C e size v n xs:=by
 obtain ⟨g1,g2⟩:=hr;refine ⟨g1,?_⟩;rcases g2 with g2 | ⟨k,cap,cur,hv,hk,hh,r⟩
 ·exact Or.inl g2
 ·exact Or.inr ⟨k,cap,cur,hv,hk,(h.cells k _ _ _ hh h1 h2 (fun e=>by have:=hx k e.symm;omega)).trans hh,r⟩
structure EchW (w:World) (m:Nat) (bx:Option Nat) (cl cr:Nat) (vl vr:Value) (W:World):Prop where
 below:Below w.heap.size w W
 L:W.heap[cl]?=some (.cells #[vl] 25 (0,0))
 R:W.heap[cr]?=some (.cells #[vr] 22 (0,0))
 lt:m≤cl∧m≤cr∧w.heap.size≤m
 bx:∀ k,bx=some k→k<m
theorem EchW.ext {w:World} {m:Nat} {bx:Option Nat} {cl cr:Nat} {vl vr:Value} {W W':World} (h:EchW w m bx cl cr vl vr W) (hb:Below W.heap.size W W'):EchW w m bx cl cr vl vr W' :=
 ⟨zC h.below hb,keeps hb h.L,keeps hb h.R,h.lt,h.bx⟩
theorem EchW.kp {w:World} {m:Nat} {bx:Option Nat} {cl cr:Nat} {vl vr:Value} {W W':World} (h:EchW w m bx cl cr vl vr W) (k:KpF w.heap.size bx W W'):EchW w m bx cl cr vl vr W' :=
 ⟨k.below h.below,(k.cells _ _ _ _ h.L (by decide) (by decide) (fun e=>by have:=h.bx _ e.symm;have:=h.lt;omega)).trans h.L,(k.cells _ _ _ _ h.R (by decide) (by decide) (fun e=>by have:=h.bx _ e.symm;have:=h.lt;omega)).trans h.R,h.lt,h.bx⟩
theorem EchW.cells {w:World} {m:Nat} {bx:Option Nat} {cl cr:Nat} {vl vr:Value} {W:World} (h:EchW w m bx cl cr vl vr W):W.cell? ⟨cl,0,none⟩=some vl∧W.cell? ⟨cr,0,none⟩=some vr:=by
 simp only [World.cell?,h.L,h.R];exact ⟨rfl,rfl⟩
theorem EchW.part {w:World} {m:Nat} {bx:Option Nat} {cl cr:Nat} {vl vr:Value} {W W':World} (h:EchW w m bx cl cr vl vr W) (k:KpF w.heap.size bx W W') {g:Nat} {p:Prt} (hg:m≤g) (hp:PK W g p):PK W' g p:=by
 unfold PK at *;exact (k.cells _ _ _ _ hp (by decide) (by decide) (fun e=>by have:=h.bx _ e.symm;omega)).trans hp
theorem zMy (rules:List RuleM) (l:List Prt) (i n:Nat):(oneM rules l i n).length≤1:=by
 unfold oneM;split
 ·split <;> simp
 ·simp
theorem zFh {α β:Type} {g:α→List β} {c:Nat}:∀ {xs:List α},(∀ a∈xs,(g a).length≤c)→(xs.flatMap g).length≤xs.length*c
 | [],_=>by simp
 | a::xs,h=>by
  rw [List.flatMap_cons,lA,lC,Nat.add_mul];have h1:=h a (by simp);have h2:=zFh (g:=g) (c:=c) (xs:=xs) (fun b hb=>h b (by simp [hb]));omega
theorem zMz (rules:List RuleM) (l:List Prt) (i n:Nat):(accM rules l i n).length≤i*rules.length+n:=by
 unfold accM;rw [lA];have h1:=zFh (g:=oneM rules l i) (c:=1) (xs:=List.range n) (fun a _=>zMy _ _ _ _);have h2:=zFh (g:=atM rules l) (c:=rules.length) (xs:=List.range i) (fun a _=>by
  unfold atM;have:=zFh (g:=oneM rules l a) (c:=1) (xs:=List.range rules.length) (fun b _=>zMy _ _ _ _)
  simpa using this)
 rw [List.length_range] at h1 h2;omega
theorem vQ {W W':World} {B:Nat} {e:TypeId} {size n:Nat} {v:Value} {xs:List Value} (h:W.ownsRow B e size v n xs) (hk:∀ (k:Nat) (cs:Array Value) (fr:Nat×Nat),W.heap[k]?=some (.cells cs e fr)→W'.heap[k]?=W.heap[k]?):W'.ownsRow B e size v n xs:=by
 obtain ⟨g1,g2⟩:=h;refine ⟨g1,?_⟩;rcases g2 with g2 | ⟨k,cap,cur,hv,hB,hh,r⟩
 ·exact Or.inl g2
 ·exact Or.inr ⟨k,cap,cur,hv,hB,(hk k _ _ hh).trans hh,r⟩
set_option maxRecDepth 100000
set_option maxHeartbeats 32000000
attribute [local irreducible] Calls
attribute [local irreducible] wpStill
open Go.Shelf
structure EchI (w W0:World) (m:Nat) (bx:Option Nat) (cl cr:Nat) (vl vr ve:Value) (l:List Prt) (J:List MchX→World→Prop) (pre:List MchX) (W:World):Prop where
 e:EchW w m bx cl cr vl vr W
 n:W.ownsRow W0.heap.size 3 1 ve l.length ((endsL l).map (Value.int .i64))
 j:J pre W
 s:W0.heap.size≤W.heap.size
theorem EchI.ext {w W0:World} {m:Nat} {bx:Option Nat} {cl cr:Nat} {vl vr ve:Value} {l:List Prt} {J:List MchX→World→Prop} {pre:List MchX} {W W':World} (hJ:∀ pre W W',J pre W→Below W.heap.size W W'→J pre W') (h:EchI w W0 m bx cl cr vl vr ve l J pre W) (hb:Below W.heap.size W W'):EchI w W0 m bx cl cr vl vr ve l J pre W' :=
 ⟨h.e.ext hb,zY h.n hb,hJ _ _ _ h.j hb,Nat.le_trans h.s hb.size⟩
theorem EchI.kp {w W0:World} {m:Nat} {bx:Option Nat} {cl cr:Nat} {vl vr ve:Value} {l:List Prt} {J:List MchX→World→Prop} {pre pre':List MchX} {W W':World} (h:EchI w W0 m bx cl cr vl vr ve l J pre W) (hm:m≤W0.heap.size) (k:KpF w.heap.size bx W W') (hj:J pre' W'):EchI w W0 m bx cl cr vl vr ve l J pre' W' :=
 ⟨h.e.kp k,k.row h.n (by decide) (by decide) (fun q e=>by have:=h.e.bx q e;omega),hj,Nat.le_trans h.s k.size⟩
def eaOut (w W0:World) (m:Nat) (bx:Option Nat) (cl cr:Nat) (vl vr ve:Value) (l:List Prt) (rules:List RuleM) (J:List MchX→World→Prop) (iv:Value) (wr:World):Prop :=
 ∃ (i:Nat) (pre:List MchX),iv=.int .i64 (i:Int)∧i≤l.length∧pre.map (·.1)=accM rules l i 0∧EchI w W0 m bx cl cr vl vr ve l J pre wr
def eaMid (w W0:World) (m:Nat) (bx:Option Nat) (cl cr:Nat) (vl vr ve:Value) (l:List Prt) (rules:List RuleM) (J:List MchX→World→Prop) (i g:Nat) (p:Prt) (nv:Value) (wr:World):Prop :=
 ∃ (n:Nat) (pre:List MchX),nv=.int .i64 (n:Int)∧n≤rules.length∧pre.map (·.1)=accM rules l i n∧EchI w W0 m bx cl cr vl vr ve l J pre wr∧PK wr g p
theorem zQe (L:List Bnd) (k:Nat) (hk:k<L.length) (a b:Int):((bindsV L).set (k*3+1) (.int .i64 a)).set (k*3+2) (.int .i64 b)=bindsV (L.set k ((L[k]).1,a,b)):=by
 induction L generalizing k with
 | nil=>simp at hk
 | cons x L ih =>
  cases k with
  | zero=>simp [bindsV,bindV]
  | succ k =>
   have:=ih k (by simpa using hk);have e:∀ j,(bindsV (x::L)).set ((k+1)*3+j)=fun v=>bindV x++(bindsV L).set (k*3+j) v:=by
    intro j;funext v;have:(k+1)*3+j=(k*3+j)+1+1+1:=by omega
    rw [this];simp [bindsV,bindV]
   have e2:∀ (M:List Value) (j:Nat) (v:Value),(bindV x++M).set ((k+1)*3+j) v=bindV x++M.set (k*3+j) v:=by
    intro M j v;have:(k+1)*3+j=(k*3+j)+1+1+1:=by omega
    rw [this];simp [bindV]
   rw [e 1,e2,this];simp [bindsV,bindV]
theorem zMw {w:World} {B g n cap:Nat} {L:List Bnd} (h:w.ownsRow B 46 3 (.slice (some ⟨g,0,none⟩) n cap) n (bindsV L)) (hn:L.length=n) (k:Nat) (hk:k<L.length) (a b:Int) :
  ((w.setCell ⟨g,k*3+1,none⟩ (.int .i64 a)).setCell ⟨g,k*3+2,none⟩ (.int .i64 b)).ownsRow B 46 3 (.slice (some ⟨g,0,none⟩) n cap) n (bindsV (L.set k ((L[k]).1,a,b))):=by
 have h1:=vC h (k*3+1) (by rw [gQ];omega) (.int .i64 a);have h2:=vC h1 (k*3+2) (by rw [List.length_set,gQ];omega) (.int .i64 b);rw [zQe L k hk] at h2;exact h2
theorem zMx {w:World} {B g n cap:Nat} {L:List Bnd} (h:w.ownsRow B 46 3 (.slice (some ⟨g,0,none⟩) n cap) n (bindsV L)) (hn:L.length=n) (k:Nat) (hk:k<L.length) :
  w.cell? ⟨g,k*3+1,none⟩=some (.int .i64 (L[k]).2.1)∧w.cell? ⟨g,k*3+2,none⟩=some (.int .i64 (L[k]).2.2)∧∀ j,w.frozen? ⟨g,j,none⟩=false:=by
 refine ⟨?_,?_,?_⟩
 ·rw [h.cellAt _ (by omega)];exact vO (g:=bindV) (sz:=3) (fun _=>rfl) L k 1 hk (by omega)
 ·rw [h.cellAt _ (by omega)];exact vO (g:=bindV) (sz:=3) (fun _=>rfl) L k 2 hk (by omega)
 ·intro j;rcases h.2 with ⟨hv,_⟩ | ⟨g',cap',cur,hv,hg,hh,_⟩
  ·cases hv
  ·simp only [Value.slice.injEq,Option.some.injEq,Addr.mk.injEq,and_true,true_and] at hv;obtain ⟨rfl,rfl⟩:=hv;simp [World.frozen?,hh]
def eaIn (W:World) (i:Nat) (L:List Bnd) (v:Value) (hv:Value) (wr:World):Prop :=
 ∃ h:Nat,hv=.int .i64 (h:Int)∧h≤L.length∧Below W.heap.size W wr∧wr.ownsRow W.heap.size 46 3 v L.length (bindsV ((L.take h).map (shiftB i)++L.drop h))
theorem zQf {L:List Bnd} {i h:Nat} (hh:h<L.length):((L.take h).map (shiftB i)++L.drop h).set h ((((L.take h).map (shiftB i)++L.drop h)[h]'(by simp;omega)).1,(L[h]).2.1+(i:Int),(L[h]).2.2+(i:Int))=(L.take (h+1)).map (shiftB i)++L.drop (h+1):=by
 have e:((L.take h).map (shiftB i)).length=h:=by simp;omega
 have e3:((L.take h).map (shiftB i)++L.drop h)[h]'(by simp;omega)=L[h]:=by
  apply Option.some.inj;rw [← gE,List.getElem?_append_right (by omega),e,Nat.sub_self,List.getElem?_drop,Nat.add_zero,gE hh]
 rw [e3,List.set_append_right _ _ (by omega),e,Nat.sub_self,List.drop_eq_getElem_cons hh,List.set_cons_zero,jO hh,List.map_append,List.append_assoc];rfl
theorem zXd {L:List Bnd} {i h:Nat} (hh:h<L.length):((L.take h).map (shiftB i)++L.drop h)[h]'(by simp;omega)=L[h]:=by
 have e:((L.take h).map (shiftB i)).length=h:=by simp;omega
 apply Option.some.inj;rw [← gE,List.getElem?_append_right (by omega),e,Nat.sub_self,List.getElem?_drop,Nat.add_zero,gE hh]
theorem yAt (rs:List RuleX) (hs:∀ x∈rs,SmallR x.1) (hz:∀ x∈rs,ruleZ x.1=0) (hn:rs.length≤32) (l:List Prt) (hw:zV l=true) (hl:SmallL l) (vr vl:Value) (w W0:World) (hT:Tabs w) (hM:MaxC w) (hr:xM w vr rs) (hlr:zF w vl l)
  (m cl cr:Nat) (bx:Option Nat) (hE:EchW w m bx cl cr vl vr W0) (hm:m≤W0.heap.size) :
  EachIs Tryz.prog 32 #[.pointer (some ⟨cl,0,none⟩),.pointer (some ⟨cr,0,none⟩)] encM (MemR w.heap.size rs.length) (KpF w.heap.size bx) (fun xs=>xs.map (·.1)=allM (rs.map (·.1)) l) (l.length*rs.length) W0:=by
 intro lp J hJ hY h0;have HQ:Hid (∀ v xs W',xs.map (·.1)=allM (rs.map (·.1)) l→J xs W'→(fun (e:Ending) W'=>(∃ v,e=.returned v)∧∃ xs,xs.map (·.1)=allM (rs.map (·.1)) l∧J xs W') (.returned v) W'):=Hd fun v xs W' h1 h2=>⟨⟨v,rfl⟩,xs,h1,h2⟩
 generalize hQ:(fun (e:Ending) W'=>(∃ v,e=.returned v)∧∃ xs,xs.map (·.1)=allM (rs.map (·.1)) l∧J xs W')=Q at *;show Calls Tryz.prog 32 #[.func (.yield lp) #[] #[],.pointer (some ⟨cl,0,none⟩),.pointer (some ⟨cr,0,none⟩)] W0 _;clear hQ;have HJ:=Hd hJ;have HY:=Hd hY;have HS:=Hd hs;have HZ:=Hd hz;have HW:=Hd hw;have HL:=Hd hl;have HT:=Hd hT;have HMX:=Hd hM;have HR:=Hd hr;have HLR:=Hd hlr;have HE:=Hd hE;obtain ⟨ar,cpr,rfl,hcr⟩:=hr.shape;obtain ⟨al,cpl,rfl,hcl⟩:=hlr.slice;have hll:=hl.1;have CF:=Hd (zTv l (by omega) _ (zJ hw) _ W0 (hlr.below hE.below));obtain ⟨e1,e2⟩:=hE.cells;have h0':=Hd h0;clear hJ hY hs hz hw hl hT hM hr hlr hE h0;go_enter Tryz.func32,Tryz.ntmps32;go_wp2_with fail;refine CF.out.mono ?_;intro e W1 he;unfold ends2Post at he;obtain ⟨ve,rfl,hb1,hown⟩:=he;have HI:Hid (EchI w W0 m bx cl cr (.slice al l.length cpl) (.slice ar rs.length cpr) ve l J [] W1):=Hd ⟨HE.out.ext hb1,hown,HJ.out _ _ _ h0'.out hb1,hb1.size⟩;clear hb1 hown CF e1 e2 HE;obtain ⟨vea,vec,hve,hvc⟩:∃ a c,ve=.slice a l.length c∧l.length≤c:=Row.shape (Row.of_owns HI.out.n);subst hve;obtain ⟨e1,e2⟩:=HI.out.e.cells;go_wp2_with fail;clear e1 e2;go_loopw [16] (fun iv wr=>eaOut w W0 m bx cl cr (.slice al l.length cpl) (.slice ar rs.length cpr) (.slice vea l.length vec) l (rs.map (·.1)) J iv wr) (fun iv _=>l.length-(intOf iv).toNat)
 case atStart=>exact ⟨0,[],rfl,Nat.zero_le _,rfl,HI.out⟩
 case round =>
  obtain ⟨i,pre,rfl,hi,hpre,hI⟩:=hrel;clear HI;have HI:=Hd hI;have HPRE:=Hd hpre;clear hI hpre;by_cases hlt:i<l.length
  ·obtain ⟨b,off,rfl,_,_,hbl,hcell⟩:=HLR.out.at HI.out.e.below (show 0<l.length by omega);obtain ⟨d0,d1,d2⟩:=hcell i hlt;have hi0:(0:Int)≤(i:Int):=by omega
   have hil:(i:Int)<l.length:=by omega
   have hic:(i:Int)<cpl:=by omega
   have HP:Hid (l[i]=(l[i].1,l[i].2.1,l[i].2.2)):=Hd rfl;generalize l[i].1=pk at *;generalize l[i].2.1=pn at *;generalize l[i].2.2=pw at *;obtain ⟨e1,e2⟩:=HI.out.e.cells;clear hcell;go_upto_region 4 with (fail);clear d0 d1 d2 e1 e2;have HPK:=Hd (PK.alloc_new wr (pk,pn,pw));have HI2:=Hd (HI.out.ext HJ.out ((bR _ _).alloc (nR _) (.cells #[.int .u8 (pk:Int),.int .i64 pn,.string pw] 53)));have HG6:Hid (m≤wr.heap.size):=Hd (by have:=HI.out.s;omega);simp only [] at HPK;clear HI;generalize wr.alloc (.cells #[.int .u8 (pk:Int),.int .i64 pn,.string pw] 53)=W2 at *;generalize wr.heap.size=g6 at *;obtain ⟨e1,e2⟩:=HI2.out.e.cells;go_wp2_with fail;clear e1 e2;go_loopw [23] (fun nv wx=>eaMid w W0 m bx cl cr (.slice (some ⟨b,off,none⟩) l.length cpl) (.slice ar rs.length cpr) (.slice vea l.length vec) l (rs.map (·.1)) J i g6 (pk,pn,pw) nv wx) (fun nv _=>rs.length-(intOf nv).toNat)
   case atStart=>exact ⟨0,pre,rfl,Nat.zero_le _,HPRE.out,HI2.out,HPK.out⟩
   case round =>
    obtain ⟨n,pre,rfl,hnl,hpre,hI,hpk⟩:=hrel;clear HI2 HPK HPRE;have HI:=Hd hI;have HPRE:=Hd hpre;have HPK:=Hd hpk;clear hI hpre hpk;rw [List.length_map] at hnl;by_cases hlt2:n<rs.length
    ·obtain ⟨rb,ro,rfl,_,_,hrl,hcell⟩:=HR.out.at HI.out.e.below (show 0<rs.length by omega);obtain ⟨d0,d1,d2,d3,d4⟩:=hcell n hlt2;have hin:=HR.out.E _ (gM hlt2);have hsm:=HS.out _ (gM hlt2);have hzr:=HZ.out _ (gM hlt2);have hrn:(rs.map (·.1))[n]?=some (rs[n]).1:=by rw [List.getElem?_map,gE hlt2];rfl
     generalize rs[n]=x at *;obtain ⟨r,vh,vf,vb⟩:=x;simp only [] at d0 d1 d2 d3 d4 hin hsm hzr hrn;obtain ⟨ah,ch,rfl,hch⟩:=Row.shape hin.H;obtain ⟨af,cf,rfl,hcf⟩:=hin.F.slice;obtain ⟨ab,cb,rfl,hcb⟩:=hin.B.slice;have HIN:=Hd hin;have HSM:=Hd hsm;have HZR:=Hd hzr;have HRN:=Hd hrn;have hn0:(0:Int)≤(n:Int):=by omega
     have hnc:(n:Int)<cpr:=by omega
     have hnl':(n:Int)<rs.length:=by omega
     obtain ⟨e1,e2⟩:=HI.out.e.cells;clear hcell hin hsm hzr hrn;go_upto_region 7 with (fail);clear d0 d1 d2 d3 d4 e1 e2;have HRK:Hid (RK (wr.alloc (.cells #[.string r.nm,.int .u8 (r.goal:Int),.slice ah r.holes.length ch,.slice af r.fnd.length cf,.slice ab r.by'.length cb] 41)) wr.heap.size r.nm r.goal (.slice ah r.holes.length ch) (.slice af r.fnd.length cf) (.slice ab r.by'.length cb)):=Hd (heap_alloc_new _ _);have HI3:=Hd (HI.out.ext HJ.out ((bR _ _).alloc (nR _) (.cells #[.string r.nm,.int .u8 (r.goal:Int),.slice ah r.holes.length ch,.slice af r.fnd.length cf,.slice ab r.by'.length cb] 41)));have HPK3:=Hd (HPK.out.keep ((bR _ _).alloc (nR _) (.cells #[.string r.nm,.int .u8 (r.goal:Int),.slice ah r.holes.length ch,.slice af r.fnd.length cf,.slice ab r.by'.length cb] 41)));clear HI HPK;generalize wr.alloc (.cells #[.string r.nm,.int .u8 (r.goal:Int),.slice ah r.holes.length ch,.slice af r.fnd.length cf,.slice ab r.by'.length cb] 41)=W3 at *;generalize wr.heap.size=g8 at *;obtain ⟨r0,r1,r2,r3,r4⟩:=HRK.out.cells;have p0:=HPK3.out.c0;have p1:=HPK3.out.c1;have p2:=HPK3.out.c2;simp only [] at p0 p1 p2;have CA:=Hd (zQi r _ _ _ (pk,pn,pw) W3 (HIN.out.below HI3.out.e.below) (xT (vI HZR.out).1.well).1);unfold ruleAgg at CA;simp only [] at CA;go_wp2_with fail;refine CA.out.mono ?_;rintro e W4 ⟨rfl,hb4⟩;have HI4:=Hd (HI3.out.ext HJ.out hb4);have HPK4:=Hd (HPK3.out.keep hb4);have HRK4:=Hd (HRK.out.below hb4);clear hb4 CA HI3 HPK3 HRK r0 r1 r2 r3 r4 p0 p1 p2;cases ha:alikeZ r (pk,pn,pw) with
     | false =>
      have HX:Hid (eaMid w W0 m bx cl cr (.slice (some ⟨b,off,none⟩) l.length cpl) (.slice (some ⟨rb,ro,none⟩) rs.length cpr) (.slice vea l.length vec) l (rs.map (·.1)) J i g6 (pk,pn,pw) (.int .i64 ((n:Int)+1)) W4):=Hd
       ⟨n+1,pre,by push_cast;rfl,by rw [List.length_map];exact hlt2,by rw [gT,yCn hlt HRN.out (by rw [HP.out];exact ha),List.append_nil];exact HPRE.out,HI4.out,HPK4.out⟩
      clear ha;go_wp2_with fail;exact ⟨HX.out,by simp only [intOf];omega⟩
     | true =>
      have HA:=Hd ha;clear ha;have hg:=zP (zJ HW.out) hlt;obtain ⟨sp,sc,hsl,hpr⟩:=kD w _ l HLR.out i (zB l i) (by omega) hg.2;have hsp:SmallL (piece l i (zB l i)):=by
       obtain ⟨q1,q2⟩:=HL.out;unfold piece;exact ⟨by rw [List.length_take,List.length_drop];omega,fun x hx=>q2 x (List.mem_of_mem_drop (List.mem_of_mem_take hx))⟩
      have CM:=Hd (fun W (hb:Below w.heap.size w W)=>zWv r HSM.out _ _ _ (piece l i (zB l i)) hsp _ 0 W (HT.out.below hb) (HMX.out.below hb) (HIN.out.below hb) (hpr.below hb));unfold ruleAgg at CM;obtain ⟨gv,rfl⟩:∃ gv,vea=some ⟨gv,0,none⟩:=kH HI4.out.n (by omega);have n1:W4.cell? ⟨gv,i,none⟩=some (.int .i64 (zB l i:Int)):=by
       rw [HI4.out.n.cellAt i (by omega),List.getElem?_map,zBh hlt];rfl
      have HON:Hid (∀ o,oneM (rs.map (·.1)) l i n=o→(match atZ r (piece l i (zB l i)) 0 with
       | some τ=>[(n,i,(bindsOf r.holes τ).map fun b=>(b.1,b.2.1+(i:Int),b.2.2+(i:Int)))]
       | none=>[])=o):=Hd (fun o h=>by have h2:=zTw HW.out hlt HRN.out;rw [h] at h2;exact h2.symm)
      have HBN:Hid (∀ τ,atZ r (piece l i (zB l i)) 0=some τ→(bindsOf r.holes τ).length=r.holes.length∧∀ b∈bindsOf r.holes τ,(0≤b.2.1∧b.2.1≤1048576)∧(0≤b.2.2∧b.2.2≤1048576)):=Hd (fun τ h=>zEw h hsp.1);obtain ⟨e1,e2⟩:=HI4.out.e.cells;obtain ⟨r0,r1,r2,r3,r4⟩:=HRK4.out.cells;have hz0:(0:Int)≤(zB l i:Int):=by omega
      have hzi:(i:Int)≤(zB l i:Int):=by omega
      have hzl:(zB l i:Int)≤l.length:=by omega
      have hvi:(i:Int)<vec:=by omega
      have hgv:gv<W4.heap.size:=by
       rcases (HI4.out.n.lt gv rfl) with ⟨_,h⟩;exact h
      have hgc:cl<W4.heap.size:=zG HI4.out.e.L;have hg8:g8<W4.heap.size:=zG HRK4.out;clear hsp hpr;generalize atZ r (piece l i (zB l i)) 0=az at *;generalize piece l i (zB l i)=pl at *;generalize zB l i=z at *;clear hg;have HK:Hid (∀ W,Below W4.drew.heap.size W4.drew W→W.cell? ⟨g8,0,none⟩=some (.string r.nm)∧W.cell? ⟨g8,1,none⟩=some (.int .u8 (r.goal:Int))∧W.cell? ⟨g8,2,none⟩=some (.slice ah r.holes.length ch)∧W.cell? ⟨g8,3,none⟩=some (.slice af r.fnd.length cf)∧W.cell? ⟨g8,4,none⟩=some (.slice ab r.by'.length cb)∧W.cell? ⟨cl,0,none⟩=some (.slice (some ⟨b,off,none⟩) l.length cpl)∧W.cell? ⟨gv,i,none⟩=some (.int .i64 (z:Int))):=Hd fun W hb =>
       ⟨(hb.cell (p:=⟨g8,0,none⟩) hg8).trans r0,(hb.cell (p:=⟨g8,1,none⟩) hg8).trans r1,(hb.cell (p:=⟨g8,2,none⟩) hg8).trans r2,(hb.cell (p:=⟨g8,3,none⟩) hg8).trans r3,(hb.cell (p:=⟨g8,4,none⟩) hg8).trans r4,(hb.cell (p:=⟨cl,0,none⟩) hgc).trans e1,(hb.cell (p:=⟨gv,i,none⟩) hgv).trans n1⟩
      have HBd:Hid (Below W4.heap.size W4 W4.drew):=Hd (bR _ _).drew;have CM2:=Hd (CM.out W4.drew (zC HI4.out.e.below HBd.out));clear CM hgv hgc hg8;go_upto_region 8 with (fail);cases az with
      | none =>
       go_region_held3 (fun W=>W.cell? ⟨g8,0,none⟩=some (.string r.nm)∧W.cell? ⟨g8,1,none⟩=some (.int .u8 (r.goal:Int))∧W.cell? ⟨g8,2,none⟩=some (.slice ah r.holes.length ch)∧W.cell? ⟨g8,3,none⟩=some (.slice af r.fnd.length cf)∧W.cell? ⟨g8,4,none⟩=some (.slice ab r.by'.length cb)∧W.cell? ⟨cl,0,none⟩=some (.slice (some ⟨b,off,none⟩) l.length cpl)∧W.cell? ⟨gv,i,none⟩=some (.int .i64 (z:Int))) (first | exact HK.out _ (bR _ _) | exact HK.out _ hb5) ((go_at_call 35;(with_reducible refine CM2.out.mono ?_);(intro e w5 hp);(unfold atPost at hp);(obtain ⟨hb5,rfl⟩:=hp);(try dsimp only)))
       all_goals
        have HI5:=Hd (HI4.out.ext HJ.out (zC HBd.out hb5));have HPK5:=Hd (HPK4.out.keep (zC HBd.out hb5));have HX:Hid (eaMid w W0 m bx cl cr (.slice (some ⟨b,off,none⟩) l.length cpl) (.slice (some ⟨rb,ro,none⟩) rs.length cpr) (.slice (some ⟨gv,0,none⟩) l.length vec) l (rs.map (·.1)) J i g6 (pk,pn,pw) (.int .i64 ((n:Int)+1)) w5):=Hd
         ⟨n+1,pre,by push_cast;rfl,by rw [List.length_map];exact hlt2,by rw [gT,← HON.out _ rfl,List.append_nil];exact HPRE.out,HI5.out,HPK5.out⟩
        clear hb5 HI4 HPK4 HRK4 HK HBd CM2 HON e1 e2 r0 r1 r2 r3 r4 n1;go_wp2_with fail;go_loopw [46] (fun hv wy=>hv=.int .i64 0∧wy=w5) (fun _ _=>0)
        case atStart=>exact ⟨rfl,rfl⟩
        case round =>
         obtain ⟨rfl,rfl⟩:=hrel;go_wp2_with fail;exact ⟨HX.out,by simp only [intOf];omega⟩
      | some τ =>
       go_region_held3 (fun W=>W.cell? ⟨g8,0,none⟩=some (.string r.nm)∧W.cell? ⟨g8,1,none⟩=some (.int .u8 (r.goal:Int))∧W.cell? ⟨g8,2,none⟩=some (.slice ah r.holes.length ch)∧W.cell? ⟨g8,3,none⟩=some (.slice af r.fnd.length cf)∧W.cell? ⟨g8,4,none⟩=some (.slice ab r.by'.length cb)∧W.cell? ⟨cl,0,none⟩=some (.slice (some ⟨b,off,none⟩) l.length cpl)∧W.cell? ⟨gv,i,none⟩=some (.int .i64 (z:Int))) (first | exact HK.out _ (bR _ _) | exact HK.out _ hb5) ((go_at_call 35;(with_reducible refine CM2.out.mono ?_);(intro e w5 hp);(unfold atPost at hp);(obtain ⟨hb5,vq,rfl,hob⟩:=hp);(obtain ⟨qa,qc,hqv,hqc⟩:=Row.shape (Row.of_owns hob));(subst hqv);(try dsimp only)))
       all_goals
        have hbs:=HBN.out τ rfl;have hon:[(n,i,(bindsOf r.holes τ).map (shiftB i))]=oneM (rs.map (·.1)) l i n:=HON.out _ rfl;obtain ⟨bs,hbse⟩:∃ bs,bs=bindsOf r.holes τ:=⟨_,rfl⟩;rw [← hbse] at hob hbs hon;obtain ⟨hbl,hbs⟩:=hbs;rw [← hbl] at hob hqc;have HI5:=Hd (HI4.out.ext HJ.out HBd.out);have HPK5:=Hd (HPK4.out.keep HBd.out);have HAT:Hid (eaIn W4.drew i bs (.slice qa bs.length qc) (.int .i64 0) w5):=Hd ⟨0,rfl,Nat.zero_le _,hb5,by simpa using hob⟩;have HBS:=Hd hbs;have HON2:=Hd hon;have hb16:bs.length≤16:=by rw [hbl];exact (kO HZR.out).2.2.2.2.2.1
        have HSZ:Hid (w.heap.size≤W4.drew.heap.size):=Hd (by have:=HI5.out.e.below.size;exact this);(try rw [← hbl])
        clear hb5 HI4 HPK4 HRK4 HK HBd CM2 HON e1 e2 r0 r1 r2 r3 r4 n1 hob hbs hon hbse hbl;generalize W4.drew=W5 at *;go_wp2_with fail;go_loopw [46] (fun hv wy=>eaIn W5 i bs (.slice qa bs.length qc) hv wy) (fun hv _=>bs.length-(intOf hv).toNat)
        case atStart=>exact HAT.out
        case round =>
         obtain ⟨h,rfl,hh,hb,ho⟩:=hrel;clear HAT;have HB:=Hd hb;have HO:=Hd ho;clear hb ho;by_cases hlt3:h<bs.length
         ·obtain ⟨gq,rfl⟩:∃ g,qa=some ⟨g,0,none⟩:=kH HO.out (by omega);have hL:((bs.take h).map (shiftB i)++bs.drop h).length=bs.length:=by simp;omega
          obtain ⟨c1,c2,cz⟩:=zMx HO.out hL h (by rw [hL];exact hlt3);rw [zXd hlt3] at c1 c2;obtain ⟨⟨f0,f1⟩,t0,t1⟩:=HBS.out _ (gM hlt3);have hst:=zMw (show wr.drew.ownsRow W5.heap.size 46 3 (.slice (some ⟨gq,0,none⟩) bs.length qc) bs.length (bindsV ((bs.take h).map (shiftB i)++bs.drop h)) from HO.out) hL h (by rw [hL];exact hlt3) ((bs[h]).2.1+(i:Int)) ((bs[h]).2.2+(i:Int));rw [zQf hlt3] at hst;have hgq:=(HO.out.lt gq rfl).1;have HBN2:=Hd (((HB.out.drew).setCell (p:=⟨gq,h*3+1,none⟩) hgq (.int .i64 ((bs[h]).2.1+(i:Int)))).setCell (p:=⟨gq,h*3+2,none⟩) hgq (.int .i64 ((bs[h]).2.2+(i:Int))));have HST:=Hd hst;clear hst hL hgq;generalize (bs[h]).2.1=fr at *;generalize (bs[h]).2.2=tt at *;have hw1:IntKind.i64.wrap (fr+(i:Int))=fr+(i:Int):=wI (by omega);have hw2:IntKind.i64.wrap (tt+(i:Int))=tt+(i:Int):=wI (by omega);have hh0:(0:Int)≤(h:Int):=by omega
          have hhl:(h:Int)<bs.length:=by omega
          have hhc:(h:Int)<qc:=by omega
          go_upto_region 12 with (fail);have HMS:Hid (eaIn W5 i bs (.slice (some ⟨gq,0,none⟩) bs.length qc) (.int .i64 ((h:Int)+1)) ((wr.drew.setCell ⟨gq,h*3+1,none⟩ (.int .i64 (fr+(i:Int)))).setCell ⟨gq,h*3+2,none⟩ (.int .i64 (tt+(i:Int))))):=Hd
           ⟨h+1,by push_cast;rfl,hlt3,HBN2.out,HST.out⟩
          replace c1:wr.drew.cell? ⟨gq,h*3+1,none⟩=some (.int .i64 fr):=c1;replace c2:wr.drew.cell? ⟨gq,h*3+2,none⟩=some (.int .i64 tt):=c2;replace cz:∀ j,wr.drew.frozen? ⟨gq,j,none⟩=false:=cz;refine fH (fun a a' w'=>a'=((((((((((((((((((((((a.put (some 49) (.slice (some ⟨gq,0,none⟩) bs.length qc)).put (some 50) (.int .i64 (h:Int))).put (some 51) (.slice (some ⟨gq,0,none⟩) bs.length qc)).put (some 52) (.int .i64 (h:Int))).put (some 53) (.slice (some ⟨gq,0,none⟩) bs.length qc)).put (some 54) (.int .i64 (h:Int))).put (some 55) (.pointer (some ⟨gq,h*3,none⟩))).put (some 56) (.pointer (some ⟨gq,h*3+1,none⟩))).put (some 57) (.int .i64 fr)).put (some 58) (.int .i64 (i:Int))).put (some 59) (.int .i64 (fr+(i:Int)))).put (some 60) (.slice (some ⟨gq,0,none⟩) bs.length qc)).put (some 61) (.int .i64 (h:Int))).put (some 62) (.pointer (some ⟨gq,h*3,none⟩))).put (some 63) (.pointer (some ⟨gq,h*3+2,none⟩))).put (some 64) (.int .i64 tt)).put (some 65) (.int .i64 (i:Int))).put (some 66) (.int .i64 (tt+(i:Int)))).put (some 67) (.pointer (some ⟨gq,h*3,none⟩))).put (some 68) (.pointer (some ⟨gq,h*3+1,none⟩))).put (some 69) (.pointer (some ⟨gq,h*3,none⟩))).put (some 70) (.pointer (some ⟨gq,h*3+2,none⟩)))∧w'=(wr.drew.setCell ⟨gq,h*3+1,none⟩ (.int .i64 (fr+(i:Int)))).setCell ⟨gq,h*3+2,none⟩ (.int .i64 (tt+(i:Int)))) ?_ ?_
          ·refine wp_region_held_drew (S:=fun _=>True) (by kernel_rfl) trivial (fun hHeld=>?_);generalize wr.drew=wd at *;refine tH 0 49 trivial ?_;refine tH 1 50 trivial ?_;refine tH 2 51 trivial ?_;refine tH 3 52 trivial ?_;refine tH 4 53 trivial ?_;refine tH 5 54 trivial ?_;refine tH 6 55 trivial ?_;refine tH 7 56 trivial ?_;refine tH 9 58 trivial ?_;refine tH 11 60 trivial ?_;refine tH 12 61 trivial ?_;refine tH 13 62 trivial ?_;refine tH 14 63 trivial ?_;refine tH 16 65 trivial ?_;refine wpAnyH_ready (rs:=[8,15]) (by kernel_rfl) (by simp) ?_;refine AllReadyH.cons (o:=⟨some 57,_,_,_,_,_⟩) rfl (fun K hK=>?eA) (AllReadyH.cons (o:=⟨some 64,_,_,_,_,_⟩) rfl (fun K hK=>?eB) AllReadyH.nil)
           case eA =>
            go_simp;refine hK.out _ _ trivial (fun _=>?_);clear hK K;(try simp only [qA,qL,qZ,qS])
            refine tH 10 59 trivial ?_;refine rH 15 (some 64) fun K hK=>?_;go_simp;refine hK.out _ _ trivial (fun _=>?_);clear hK K;(try simp only [qA,qL,qZ,qS])
            refine tH 17 66 trivial ?_;refine tH 18 67 trivial ?_;refine tH 19 68 trivial ?_;refine rH 20 none fun K hK=>?_;go_simp;refine hK.out _ _ trivial (fun _=>?_);clear hK K;(try simp only [qA,qL,qZ,qS])
            refine tH 21 69 trivial ?_;refine tH 22 70 trivial ?_;refine rH 23 none fun K hK=>?_;go_simp;refine hK.out _ _ trivial (fun _=>?_);clear hK K;(try simp only [qA,qL,qZ,qS])
            refine wpAnyH_done (by kernel_rfl) ?_ _;refine ⟨?_,rfl⟩
            kernel_rfl
           case eB =>
            go_simp;refine hK.out _ _ trivial (fun _=>?_);clear hK K;(try simp only [qA,qL,qZ,qS])
            refine tH 17 66 trivial ?_;refine rH 8 (some 57) fun K hK=>?_;go_simp;refine hK.out _ _ trivial (fun _=>?_);clear hK K;(try simp only [qA,qL,qZ,qS])
            refine tH 10 59 trivial ?_;refine tH 18 67 trivial ?_;refine tH 19 68 trivial ?_;refine rH 20 none fun K hK=>?_;go_simp;refine hK.out _ _ trivial (fun _=>?_);clear hK K;(try simp only [qA,qL,qZ,qS])
            refine tH 21 69 trivial ?_;refine tH 22 70 trivial ?_;refine rH 23 none fun K hK=>?_;go_simp;refine hK.out _ _ trivial (fun _=>?_);clear hK K;(try simp only [qA,qL,qZ,qS])
            refine wpAnyH_done (by kernel_rfl) ?_ _;refine ⟨?_,rfl⟩
            kernel_rfl
          rintro _ _ ⟨rfl,rfl⟩;(try simp only [qA,qL,qZ,qS])
          clear c1 c2 cz;generalize (wr.drew.setCell ⟨gq,h*3+1,none⟩ (.int .i64 (fr+(i:Int)))).setCell ⟨gq,h*3+2,none⟩ (.int .i64 (tt+(i:Int)))=wz at *;go_wp2_with fail
          case roundEnd=>exact ⟨HMS.out,by simp only [intOf];omega⟩
         ·obtain rfl:h=bs.length:=by omega
          have ho:wr.ownsRow W5.heap.size 46 3 (.slice qa bs.length qc) bs.length (bindsV (bs.map (shiftB i))):=by
           have:=HO.out;rw [List.take_length,List.drop_length,List.append_nil] at this;exact this
          have HI6:=Hd (HI5.out.ext HJ.out HB.out);have HPK6:=Hd (HPK5.out.keep HB.out);have hmem:MemR w.heap.size rs.length ((n,i,bs.map (shiftB i)),.slice qa bs.length qc) wr:=by
           refine ⟨?_,hlt2⟩;unfold MemM;rw [List.length_map];exact World.ownsRow.base_mono ho HSZ.out
          have hlen:pre.length<l.length*rs.length:=by
           have h1:=congrArg List.length HPRE.out;rw [List.length_map] at h1;have h2:=zMz (rs.map (·.1)) l i n;rw [List.length_map] at h2;have h3:(i+1)*rs.length≤l.length*rs.length:=Nat.mul_le_mul_right _ (by omega);rw [Nat.add_mul] at h3;omega
          obtain ⟨fn,tmps,assign,body,hy,hR⟩:=HY.out pre _ wr HI6.out.j hmem hlen;dsimp only [encM] at hy;have HRR:=Hd hR;clear hR hmem ho HO HI5 HPK5 HB hlen;go_upto_region 14 with (fail);refine (wpIn_wide (n:=3)).1 ?_
          gi_wp2
          refine HRR.out.mono ?_;rintro e W7 ⟨rfl,hj7,hk7⟩;have HI7:=Hd (HI6.out.kp hm hk7 hj7);have HPK7:=Hd (HI6.out.e.part hk7 HG6.out HPK6.out);have HX:Hid (eaMid w W0 m bx cl cr (.slice (some ⟨b,off,none⟩) l.length cpl) (.slice (some ⟨rb,ro,none⟩) rs.length cpr) (.slice (some ⟨gv,0,none⟩) l.length vec) l (rs.map (·.1)) J i g6 (pk,pn,pw) (.int .i64 ((n:Int)+1)) W7):=Hd
           ⟨n+1,pre++[((n,i,bs.map (shiftB i)),.slice qa bs.length qc)],by push_cast;rfl,by rw [List.length_map];exact hlt2,by rw [gT,← HON2.out,List.map_append,HPRE.out];rfl,HI7.out,HPK7.out⟩
          clear hj7 hk7 HI6 HPK6 HRR hy
          gi_wp2
          go_wp2_with fail;exact ⟨HX.out,by simp only [intOf];omega⟩
    ·obtain rfl:n=rs.length:=by omega
     have HX:Hid (eaOut w W0 m bx cl cr (.slice (some ⟨b,off,none⟩) l.length cpl) (.slice ar rs.length cpr) (.slice vea l.length vec) l (rs.map (·.1)) J (.int .i64 ((i:Int)+1)) wr):=Hd
      ⟨i+1,pre,by push_cast;rfl,hlt,by rw [zAv,List.length_map];exact HPRE.out,HI.out⟩
     go_wp2_with fail;exact ⟨HX.out,by simp only [intOf];omega⟩
  ·obtain rfl:i=l.length:=by omega
   have HX:=Hd (fun v=>HQ.out v pre wr (by rw [HPRE.out,zFy]) HI.out.j);go_wp2_with fail;go_end0;exact HX.out _
end Go.Proofs.YtbjkdmbcpkopjaaGreatDoor
