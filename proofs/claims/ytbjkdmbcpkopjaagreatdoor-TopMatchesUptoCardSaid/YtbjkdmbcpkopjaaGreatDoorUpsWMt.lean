/- Layer 16: what ups holds in memory: two rows that grow, and elements that lie ready. -/
import Derived.Test.YtbjkdmbcpkopjaaGreatDoorRuleVMt
import Derived.Test.YtbjkdmbcpkopjaaGreatDoorAppEqMt
import Derived.Test.YtbjkdmbcpkopjaaGreatDoorUntilMt
import Derived.Test.YtbjkdmbcpkopjaaGreatDoorCoreMt
import Derived.Deep.RegionHeld3
namespace Go.Proofs.YtbjkdmbcpkopjaaGreatDoor
set_option linter.all false
open Go.RowKit

def intsR (l:List Int):List Value:=l.map (Value.int .i64)
theorem kU (l:List Int) (x:Int):intsR (l++[x])=intsR l++[.int .i64 x]:=by simp [intsR]
def litB (x:Int):Obj:=.cells #[.int .i64 x] 3 (0,0)
structure UpW (B go:Nat) (w0:World) (E os cs:List Int) (vo vl:Value) (L:List (Nat×Obj)) (W:World):Prop where
 opn:W.ownsRow B 3 1 vo os.length (intsR os)
 lft:W.ownsRow B 3 1 vl cs.length (intsR cs)
 out:W.heap[go]?=some (.cells (intsR E).toArray 3 (0,0))
 below:Below B w0 W
 base:B≤W.heap.size
 go0:B≤go
 o1:vo.ownBlock≠some go
 l1:vl.ownBlock≠some go
 ol:∀ g,vo.ownBlock=some g→vl.ownBlock≠some g
 lits:∀ p∈L,W.heap[p.1]?=some p.2∧vo.ownBlock≠some p.1∧vl.ownBlock≠some p.1∧p.1≠go
theorem UpW.build {B go:Nat} {w0 W:World} {E os cs:List Int} {vo vl:Value} {L:List (Nat×Obj)} (h:UpW B go w0 E os cs vo vl L W) (x:Obj) :
  UpW B go w0 E os cs vo vl ((W.heap.size,x)::L) (W.alloc x):=by
 have hgo:=zG h.out;refine ⟨h.opn.alloc _,h.lft.alloc _,by rw [Below.heap_alloc _ _ _ hgo];exact h.out,h.below.alloc h.base _,by simp;have:=h.base;omega,h.go0,h.o1,h.l1,h.ol,fun p hp=>?_⟩;rcases List.mem_cons.1 hp with rfl | hp
 ·refine ⟨heap_alloc_new _ _,fun e=>?_,fun e=>?_,by simp only;omega⟩
  ·have:=(h.opn.lt _ e).2;simp only at this;omega
  ·have:=(h.lft.lt _ e).2;simp only at this;omega
 ·obtain ⟨a,b,c,d⟩:=h.lits p hp;exact ⟨by rw [Below.heap_alloc _ _ _ (zG a)];exact a,b,c,d⟩
theorem yCe {W:World} {k:Nat} {x:Int} (h:W.heap[k]?=some (litB x)):Row W (.slice (some ⟨k,0,none⟩) 1 1) 1 1 [.int .i64 x] :=
 ⟨rfl,some ⟨k,0,none⟩,1,rfl,nR _,by simp,fun _=>⟨k,0,rfl,zG h,fun i hi=>by
  obtain rfl:i=0:=by omega
  simp [World.cell?,h,litB]⟩⟩
theorem UpW.appO {B go:Nat} {w0 W:World} {E os cs:List Int} {vo vl:Value} {L:List (Nat×Obj)} (h:UpW B go w0 E os cs vo vl L W) (k:Nat) (x:Int) (hk:(k,litB x)∈L) (hL:os.length≤1000000000) :
  ∃ v' w',(Builtin.append_ #[54,54] 54 #[vo,.slice (some ⟨k,0,none⟩) 1 1]).run Tryz.prog W=.ok v' w'∧UpW B go w0 E (os++[x]) cs v' vl L w':=by
 obtain ⟨hk1,_⟩:=h.lits _ hk;obtain ⟨v',w',h1,h2,h3,h4⟩:=jN (P:=Tryz.prog) W 54 54 3 Tryz.underlying54 B kQ rfl (by decide) vo os.length _ h.opn _ 1 _ (yCe hk1) (by intro u hu;simp at hu;subst hu;rfl) (by omega) (by omega) h.base;have hgo:=zG h.out;refine ⟨v',w',h1,⟨?_,h.lft.kept h3 ?_,?_,zAa h.below h.base h.opn h3,Nat.le_trans h.base h3.size,h.go0,?_,h.l1,fun g e1 e2=>?_,fun p hp=>?_⟩⟩
 ·rw [kU,lA];exact h2
 ·cases hb:vl.ownBlock with
  | none=>exact Or.inl rfl
  | some g=>exact Or.inr fun e=>h.ol g e.symm hb
 ·rw [h3.block go hgo (fun e=>h.o1 e.symm)];exact h.out
 ·rcases h4 with e | e
  ·rw [e];exact h.o1
  ·rw [e];intro e;simp only [Option.some.injEq] at e;omega
 ·rcases h4 with e | e
  ·rw [e] at e1;exact h.ol g e1 e2
  ·rw [e] at e1;simp only [Option.some.injEq] at e1;have:=(h.lft.lt g e2).2;omega
 ·obtain ⟨a,b,c,d⟩:=h.lits p hp;have:=zG a;refine ⟨by rw [h3.block p.1 this (fun e=>b e.symm)];exact a,?_,c,d⟩;rcases h4 with e | e
  ·rw [e];exact b
  ·rw [e];intro e;simp only [Option.some.injEq] at e;omega
theorem UpW.flip {B go:Nat} {w0 W:World} {E os cs:List Int} {vo vl:Value} {L:List (Nat×Obj)} (h:UpW B go w0 E os cs vo vl L W):UpW B go w0 E cs os vl vo L W :=
 ⟨h.lft,h.opn,h.out,h.below,h.base,h.go0,h.l1,h.o1,fun g a b=>h.ol g b a,fun p hp=>by obtain ⟨a,b,c,d⟩:=h.lits p hp;exact ⟨a,c,b,d⟩⟩
theorem UpW.appL {B go:Nat} {w0 W:World} {E os cs:List Int} {vo vl:Value} {L:List (Nat×Obj)} (h:UpW B go w0 E os cs vo vl L W) (k:Nat) (x:Int) (hk:(k,litB x)∈L) (hL:cs.length≤1000000000) :
  ∃ v' w',(Builtin.append_ #[54,54] 54 #[vl,.slice (some ⟨k,0,none⟩) 1 1]).run Tryz.prog W=.ok v' w'∧UpW B go w0 E os (cs++[x]) vo v' L w':=by
 obtain ⟨v',w',h1,h2⟩:=h.flip.appO k x hk hL;exact ⟨v',w',h1,h2.flip⟩
theorem UpW.drewN {B go:Nat} {w0 W:World} {E os cs:List Int} {vo vl:Value} {L:List (Nat×Obj)} (h:UpW B go w0 E os cs vo vl L W) (n:Nat):UpW B go w0 E os cs vo vl L (W.drewN n) :=
 ⟨h.opn,h.lft,h.out,drewB h.below n,h.base,h.go0,h.o1,h.l1,h.ol,h.lits⟩
theorem UpW.put {B go:Nat} {w0 W:World} {E os cs:List Int} {vo vl:Value} {L:List (Nat×Obj)} (h:UpW B go w0 E os cs vo vl L W) (i:Nat) (x:Int):UpW B go w0 (E.set i x) os cs vo vl L (W.setCell ⟨go,i,none⟩ (.int .i64 x)):=by
 refine ⟨ownsRow_setCell_other h.opn h.o1 _,ownsRow_setCell_other h.lft h.l1 _,?_,h.below.setCell (p:=⟨go,i,none⟩) h.go0 _,by simpa using h.base,h.go0,h.o1,h.l1,h.ol,fun p hp=>by
  obtain ⟨a,b,c,d⟩:=h.lits p hp;exact ⟨by rw [heap_setCell_other _ _ _ _ (by exact d)];exact a,b,c,d⟩⟩
 rw [heap_setCell_same W go i _ _ _ h.out,List.setIfInBounds_toArray];unfold intsR;rw [List.map_set]
theorem UpW.pop {B go:Nat} {w0 W:World} {E os cs:List Int} {o c:Int} {ao al:Option Addr} {no nl co cl:Nat} {L:List (Nat×Obj)} (hno:no=os.length+1) (hnl:nl=cs.length+1) (h:UpW B go w0 E (os++[o]) (cs++[c]) (.slice ao no co) (.slice al nl cl) L W) :
  UpW B go w0 E os cs (.slice ao os.length co) (.slice al cs.length cl) L W:=by
 subst hno hnl;have h1:=h.opn;have h2:=h.lft;rw [lA,List.length_singleton] at h1 h2;have h1:=jM h1 (k:=os.length) (by omega);have h2:=jM h2 (k:=cs.length) (by omega);rw [kU,Nat.mul_one,List.take_append_of_le_length (by simp [intsR]),List.take_of_length_le (by simp [intsR])] at h1 h2;have ho:∀ (a:Option Addr) (n n' c:Nat),(Value.slice a n c).ownBlock=(Value.slice a n' c).ownBlock:=fun a n n' c=>by cases a <;> rfl
 refine ⟨h1,h2,h.out,h.below,h.base,h.go0,?_,?_,?_,?_⟩
 ·rw [ho ao _ (os.length+1)];exact h.o1
 ·rw [ho al _ (cs.length+1)];exact h.l1
 ·rw [ho ao _ (os.length+1),ho al _ (cs.length+1)];exact h.ol
 ·rw [ho ao _ (os.length+1),ho al _ (cs.length+1)];exact h.lits
theorem UpW.less {B go:Nat} {w0 W:World} {E os cs:List Int} {c:Int} {vo:Value} {g nl cl:Nat} {L:List (Nat×Obj)} (hnl:nl=cs.length+1) (h:UpW B go w0 E os (cs++[c]) vo (.slice (some ⟨g,0,none⟩) nl cl) L W) (x:Int) :
  UpW B go w0 E os (cs++[x]) vo (.slice (some ⟨g,0,none⟩) nl cl) L (W.setCell ⟨g,cs.length,none⟩ (.int .i64 x)):=by
 subst hnl;have h2:=h.lft;rw [lA,List.length_singleton] at h2;have h3:=vC h2 cs.length (by simp [intsR]) (.int .i64 x);have e1:(intsR (cs++[c])).set cs.length (.int .i64 x)=intsR (cs++[x]):=by
  rw [kU,kU,List.set_append_right _ _ (by simp [intsR])];simp [intsR]
 rw [e1] at h3;have hg:g≠go:=fun e=>h.l1 (by rw [e];rfl)
 refine ⟨ownsRow_setCell_other h.opn (fun e=>h.ol g e rfl) _,by rw [lA,List.length_singleton];exact h3,?_,h.below.setCell (p:=⟨g,cs.length,none⟩) (h2.lt g rfl).1 _,by simpa using h.base,h.go0,h.o1,h.l1,h.ol,fun p hp=>by
  obtain ⟨a,b,c,d⟩:=h.lits p hp;exact ⟨by rw [heap_setCell_other W ⟨g,cs.length,none⟩ p.1 _ (fun e=>c (congrArg some e.symm))];exact a,b,c,d⟩⟩
 rw [heap_setCell_other _ _ _ _ (fun e=>hg e.symm)];exact h.out
theorem UpW.drew {B go:Nat} {w0 W:World} {E os cs:List Int} {vo vl:Value} {L:List (Nat×Obj)} (h:UpW B go w0 E os cs vo vl L W):UpW B go w0 E os cs vo vl L W.drew:=⟨h.opn,h.lft,h.out,h.below.drew,h.base,h.go0,h.o1,h.l1,h.ol,h.lits⟩
theorem UpW.less_known {B go:Nat} {w0 W:World} {E os cs:List Int} {vo vl:Value} {L:List (Nat×Obj)} (h:UpW B go w0 E os cs vo vl L W):UpW B go w0 E os cs vo vl [] W :=
 ⟨h.opn,h.lft,h.out,h.below,h.base,h.go0,h.o1,h.l1,h.ol,fun p hp=>by cases hp⟩
def osL (st:List (Nat×Int)):List Int:=(st.map fun x=>(x.1:Int)).reverse
def csL (st:List (Nat×Int)):List Int:=(st.map (·.2)).reverse
theorem yD (st:List (Nat×Int)):(osL st).length=st.length:=by simp [osL]
theorem zZ (st:List (Nat×Int)):(csL st).length=st.length:=by simp [csL]
theorem fF (o:Nat) (c:Int) (st:List (Nat×Int)):osL ((o,c)::st)=osL st++[(o:Int)]:=by simp [osL]
theorem fG (o:Nat) (c:Int) (st:List (Nat×Int)):csL ((o,c)::st)=csL st++[c]:=by simp [csL]
theorem UpW.shape {B go:Nat} {w0 W:World} {E:List Int} {st:List (Nat×Int)} {vo vl:Value} {L:List (Nat×Obj)} (h:UpW B go w0 E (osL st) (csL st) vo vl L W) :
  ∃ ao co al cl,vo=.slice ao st.length co∧vl=.slice al st.length cl∧st.length≤co∧st.length≤cl:=by
 obtain ⟨_,ao,co,h1,h2,_,_⟩:=Row.of_owns h.opn;obtain ⟨_,al,cl,h3,h4,_,_⟩:=Row.of_owns h.lft;rw [yD] at h1 h2;rw [zZ] at h3 h4;exact ⟨ao,co,al,cl,h1,h3,h2,h4⟩
theorem UpW.topc {B go:Nat} {w0 W:World} {E:List Int} {o:Nat} {c:Int} {r:List (Nat×Int)} {vo vl:Value} {L:List (Nat×Obj)} (h:UpW B go w0 E (osL ((o,c)::r)) (csL ((o,c)::r)) vo vl L W) :
  ∃ bo bl co cl,vo=.slice (some ⟨bo,0,none⟩) (r.length+1) co∧vl=.slice (some ⟨bl,0,none⟩) (r.length+1) cl∧r.length+1≤co∧r.length+1≤cl ∧
   W.cell? ⟨bo,r.length,none⟩=some (.int .i64 (o:Int))∧W.cell? ⟨bl,r.length,none⟩=some (.int .i64 c)∧W.frozen? ⟨bl,r.length,none⟩=false∧bl≠go:=by
 have hne:∀ g,vl.ownBlock=some g→g≠go:=fun g e e2=>h.l1 (by rw [e,e2])
 obtain ⟨ao,co,al,cl,rfl,rfl,h3,h4⟩:=h.shape;have h1:=h.opn;have h2:=h.lft;rw [yD] at h1;rw [zZ] at h2;obtain ⟨bo,rfl⟩:=kH h1 (by simp);obtain ⟨bl,rfl⟩:=kH h2 (by simp);refine ⟨bo,bl,co,cl,rfl,rfl,h3,h4,?_,?_,?_,hne bl rfl⟩
 ·rw [h1.cellAt _ (by simp),fF,kU,List.getElem?_append_right (by simp [intsR,osL])];simp [intsR,osL]
 ·rw [h2.cellAt _ (by simp),fG,kU,List.getElem?_append_right (by simp [intsR,csL])];simp [intsR,csL]
 ·rcases h2.2 with ⟨hv,_⟩ | ⟨g',cap',cur,hv,_,hh,_⟩
  ·cases hv
  ·simp only [Value.slice.injEq,Option.some.injEq,Addr.mk.injEq,and_true,true_and] at hv;obtain ⟨rfl,rfl⟩:=hv;simp [World.frozen?,hh]
theorem UpW.popc {B go:Nat} {w0 W:World} {E:List Int} {o:Nat} {c:Int} {r:List (Nat×Int)} {ao al:Option Addr} {co cl:Nat} {L:List (Nat×Obj)} (h:UpW B go w0 E (osL ((o,c)::r)) (csL ((o,c)::r)) (.slice ao (r.length+1) co) (.slice al (r.length+1) cl) L W) :
  UpW B go w0 E (osL r) (csL r) (.slice ao r.length co) (.slice al r.length cl) L W:=by
 rw [fF,fG] at h;have:=UpW.pop (by rw [yD]) (by rw [zZ]) h;rw [yD,zZ] at this;exact this
theorem UpW.lessc {B go:Nat} {w0 W:World} {E:List Int} {o:Nat} {c:Int} {r:List (Nat×Int)} {vo:Value} {g cl:Nat} {L:List (Nat×Obj)} (h:UpW B go w0 E (osL ((o,c)::r)) (csL ((o,c)::r)) vo (.slice (some ⟨g,0,none⟩) (r.length+1) cl) L W) (x:Int) :
  UpW B go w0 E (osL ((o,x)::r)) (csL ((o,x)::r)) vo (.slice (some ⟨g,0,none⟩) (r.length+1) cl) L (W.setCell ⟨g,r.length,none⟩ (.int .i64 x)):=by
 rw [fF,fG] at h;have:=UpW.less (by rw [zZ]) h x;rw [zZ] at this;rw [fF,fG];exact this
theorem UpW.kid1 {B go:Nat} {w0 W:World} {E os cs:List Int} {vo vl:Value} {L:List (Nat×Obj)} {gp:Nat} {a kd:Int} {s:ByteArray} (h:UpW B go w0 E os cs vo vl L W) (hm:(gp,Obj.cells #[.int .u8 a,.int .i64 kd,.string s] 53)∈L):W.cell? ⟨gp,1,none⟩=some (.int .i64 kd):=by
 have:=(h.lits _ hm).1;simp only at this;simp [World.cell?,this]
theorem UpW.outc {B go:Nat} {w0 W:World} {E os cs:List Int} {vo vl:Value} {L:List (Nat×Obj)} (h:UpW B go w0 E os cs vo vl L W) (i:Nat) (hi:i<E.length):W.cell? ⟨go,i,none⟩=some (.int .i64 (E[i]))∧W.frozen? ⟨go,i,none⟩=false:=by
 constructor
 ·simp [World.cell?,h.out,intsR,hi]
 ·simp [World.frozen?,h.out]
theorem zM {P:Program} {w w':World} {o:Oper} {a:Act} {K:Act→World→Prop} {Q:Exit→Act→World→Prop} (s x:Operand) (t u:TypeId) {v src v':Value} {ty:TypeId}
  (hrun:(Builtin.append_ #[t,u] ty #[v,src]).run P w=.ok v' w') (ho:o.op=.call { callee:=.builtin .append,args:=#[s,x],argTypes:=#[t,u] }) (hty:o.type=ty)
  (hs:a.eval s=v) (hx:a.eval x=src) (h:K (a.put o.dst v') w'):Oper.wp P o a w K Q:=by
 subst hty;unfold Oper.wp;simp [execOp,ho,resolve,invoke,builtin,hs,hx,hrun,Result.andThen];exact h
set_option maxRecDepth 100000
set_option maxHeartbeats 32000000
attribute [local irreducible] Calls
def upRel (l:List Prt) (B go:Nat) (w0:World) (vo vl iv:Value) (wr:World):Prop :=
 ∃ (i:Nat) (st:List (Nat×Int)) (E:List Int),iv=.int .i64 (i:Int)∧i≤l.length∧UpInv l st i∧st.length≤i∧E.length=l.length∧(∀ j,j<i→E.getD j 0=upN l j)∧UpW B go w0 E (osL st) (csL st) vo vl [] wr
def upIn (l:List Prt) (B go:Nat) (w0:World) (E:List Int) (i gp:Nat) (a:Int) (kd:Int) (s:ByteArray) (vo vl:Value) (wr:World):Prop :=
 ∃ (st:List (Nat×Int)),UpInv l st i∧st.length≤i∧UpW B go w0 E (osL st) (csL st) vo vl [(gp,.cells #[.int .u8 a,.int .i64 kd,.string s] 53)] wr
def lenV (v:Value):Nat:=match v with
 | .slice _ n _=>n
 | _=>0
theorem UpInv.cbound {l:List Prt} {us:List Nat} (hl:zD l=some us) {o:Nat} {c:Int} {st:List (Nat×Int)} {pos:Nat} (h:UpInv l ((o,c)::st) pos):0≤c∧c≤l.length:=by
 obtain ⟨h1,h2,h3,h4,_,_⟩:=h;have:=yY hl _ _ _ _ h4 h3;omega
theorem zPv {w:World} {b n:Nat} {E:List Int} (h:w.heap[b]?=some (.cells (intsR E).toArray 3 (0,0))) (hn:n=E.length):zI w (.slice (some ⟨b,0,none⟩) n n) .i64 E:=by
 subst hn;refine ⟨by simp,some ⟨b,0,none⟩,E.length,rfl,nR _,by simp,fun _=>⟨b,0,rfl,zG h,fun j hj=>?_⟩⟩;simp only [World.cell?,h,Nat.zero_add];simp [intsR]
theorem zCz (l:List Prt) (hw:zV l=true) (hl:l.length≤1000000000):UpsC l:=by
 intro v w hr;have HQ:Hid (∀ v' w',Below w.heap.size w w'→zI w' v' .i64 (upsL l)→(fun (e:Ending) w'=>∃ v',e=.returned v'∧Below w.heap.size w w'∧zI w' v' .i64 (upsL l)) (.returned v') w'):=Hd fun v' w' h1 h2=>⟨v',rfl,h1,h2⟩
 generalize (fun (e:Ending) w'=>∃ v',e=.returned v'∧Below w.heap.size w w'∧zI w' v' .i64 (upsL l))=Q at *;have HR:=Hd hr;have HWL:=Hd (zJ hw);have HWW:=Hd hw;obtain ⟨va,vcap,rfl,hvc⟩:=hr.slice;clear hr hw;have hmk:=fX l.length hl;go_enter Tryz.func75,Tryz.ntmps75;go_wp2_with fail;have HW0:Hid (UpW w.heap.size w.heap.size w (List.replicate l.length 0) (osL []) (csL []) (.slice none 0 0) (.slice none 0 0) [] (w.alloc (.cells (Array.replicate l.length (Value.int .i64 0)) 3))):=Hd ⟨World.ownsRow_nil _ _ _ _,World.ownsRow_nil _ _ _ _,by
   rw [heap_alloc_new];simp [intsR],(bR _ _).alloc (nR _) _,by simp,nR _,by simp [Value.ownBlock],by simp [Value.ownBlock],fun g e=>by simp [Value.ownBlock] at e,fun p hp=>by cases hp⟩
 generalize w.alloc (.cells (Array.replicate l.length (Value.int .i64 0)) 3)=W0 at *;generalize hBB:w.heap.size=B at *;have HBB:=Hd hBB;clear hBB;go_loopw [4,5,13] (fun vo vl iv wr=>upRel l B B w vo vl iv wr) (fun _ _ iv _=>l.length-(intOf iv).toNat)
 case atStart=>exact ⟨0,[],List.replicate l.length 0,rfl,Nat.zero_le _,Or.inr rfl,nR _,by simp,fun j hj=>by omega,HW0.out⟩
 case round =>
  obtain ⟨i,st,E,rfl,hi,hinv,hst,hEl,hEq,hW⟩:=hrel;have HW:=Hd hW;have HINV:=Hd hinv;have HEL:=Hd hEl;have HEQ:=Hd hEq;clear hW hinv hEl hEq HW0;by_cases hlt:i<l.length
  ·obtain ⟨b,off,rfl,_,_,hbl,hcell⟩:=HR.out.at (HBB.out ▸ HW.out.below) (show 0<l.length by omega);obtain ⟨d0,d1,d2⟩:=hcell i hlt;obtain ⟨p,hp⟩:∃ p,p=l[i]:=⟨_,rfl⟩;rw [← hp] at d0 d1 d2;obtain ⟨a,kd,s⟩:=p;simp only [] at d0 d1 d2;have HP:=Hd hp;obtain ⟨ao,co,al,cl,rfl,rfl,hco,hcl⟩:=HW.out.shape;have hi0:(0:Int)≤(i:Int):=by omega
   have hil:(i:Int)<l.length:=by omega
   have hwi:IntKind.i64.wrap ((i:Int)+1)=(i:Int)+1:=wI (by omega);have HW1:=Hd (HW.out.build (.cells #[.int .u8 (a:Int),.int .i64 kd,.string s] 53));have HW2:=Hd (HW1.out.put i (-1));obtain ⟨e1,e2⟩:=HW1.out.outc i (by rw [HEL.out];exact hlt);have HMS:Hid (l.length-(i+1)<l.length-i):=Hd (by omega);clear hcell hp;go_wp2_with fail;clear d0 d1 d2 e1 e2;generalize (World.setCell _ _ _)=W2 at *;generalize wr.heap.size=gp at *;go_loopw [4,5] (fun vo vl wx=>upIn l B B w (E.set i (-1)) i gp (a:Int) kd s vo vl wx) (fun vo _ _=>lenV vo)
   case atStart=>exact ⟨st,HINV.out,hst,HW2.out⟩
   case round =>
    obtain ⟨st2,hinv2,hst2,hW3⟩:=hrel;have HI2:=Hd hinv2;have HW3:=Hd hW3;clear hinv2 hW3 HW1 HW2 HINV HW;cases st2 with
    | nil =>
     obtain ⟨ao2,co2,al2,cl2,rfl,rfl,hco2,hcl2⟩:=HW3.out.shape;have hi00:i=0:=by
      rcases HI2.out with h | h
      ·omega
      ·exact h
     have HFIN:Hid (∀ vo' vl' L w',UpW B B w (E.set i (-1)) (osL []++[(i:Int)]) (csL []++[kd]) vo' vl' L w'→upRel l B B w vo' vl' (.int .i64 ((i:Int)+1)) w'):=Hd fun vo' vl' L w' h=>by
      subst hi00;refine ⟨1,[(0,kd)],E.set 0 (-1),rfl,by omega,?_,nR _,by rw [List.length_set];exact HEL.out,fun j hj=>?_,by rw [fF,fG];exact h.less_known⟩
      ·have:=UpInv.root HWW.out hlt;rw [← HP.out] at this;exact this
      ·obtain rfl:j=0:=by omega
       rw [gD,List.getElem?_set_self (by rw [HEL.out];exact hlt)];rfl
     have HLO:Hid (([]:List (Nat×Int)).length≤1000000000):=Hd (by simp);clear hi00;simp only [lN] at *;go_wp2_with fail;refine wp_region_noPanic ?_;refine wp_region_held_drew (S:=fun W'=>W'.cell? ⟨gp,1,none⟩=some (.int .i64 kd)) (by kernel_rfl) (HW3.out.drew.kid1 (List.mem_cons_self ..)) (fun hHeld=>?_);have HD:=Hd HW3.out.drew;generalize wr.drew=wd at *;refine tH 0 _ hHeld ?_;refine tH 1 _ hHeld ?_;refine tH 4 _ hHeld ?_;refine tH 5 _ hHeld ?_;refine tH 6 _ hHeld ?_;refine wpAnyH_ready (rs:=[2,7]) (by kernel_rfl) (by simp) ?_;refine AllReadyH.cons (o:=_) rfl (fun K hK=>?ab5_2) (AllReadyH.cons (o:=_) rfl (fun K hK=>?ab5_7) AllReadyH.nil)
     case ab5_2 =>
      go_simp;have hu:=HD.out.build (litB (i:Int));refine hK.out _ (wd.alloc (litB (i:Int))) (hu.kid1 (a:=(a:Int)) (s:=s) (by simp)) (fun hH6=>?_);clear hK K hHeld;have HU6:=Hd hu;clear hu;generalize wd.alloc (litB (i:Int))=x6 at *;generalize wd.heap.size=k6 at *;(try simp only [qA,qL,qZ,qS])
      refine wpAnyH_ready (rs:=[3,7]) (by kernel_rfl) (by simp) ?_;refine AllReadyH.cons (o:=_) rfl (fun K hK=>?ab6_3) (AllReadyH.cons (o:=_) rfl (fun K hK=>?ab6_7) AllReadyH.nil)
      case ab6_3 =>
       rw [iP (by kernel_rfl)];obtain ⟨v7,x7,hr,hu⟩:=HU6.out.appO k6 (i:Int) (by simp) (by have:=HLO.out;first | (rw [yD];exact this) | (rw [zZ];exact this));refine zM _ _ _ _ hr rfl rfl rfl rfl ?_;refine hK.out _ _ (hu.kid1 (a:=(a:Int)) (s:=s) (by simp)) (fun hH7=>?_);clear hK K hr hH6;have HU7:=Hd hu;clear hu;(try simp only [qA,qL,qZ,qS])
       refine wpAnyH_ready (rs:=[7]) (by kernel_rfl) (by simp) ?_;refine AllReadyH.cons (o:=_) rfl (fun K hK=>?ab7_7) AllReadyH.nil
       case ab7_7 =>
        go_simp;have hu:=HU7.out.build (litB kd);refine hK.out _ (x7.alloc (litB kd)) (hu.kid1 (a:=(a:Int)) (s:=s) (by simp)) (fun hH8=>?_);clear hK K hH7;have HU8:=Hd hu;clear hu;generalize x7.alloc (litB kd)=x8 at *;generalize x7.heap.size=k8 at *;(try simp only [qA,qL,qZ,qS])
        refine wpAnyH_ready (rs:=[8]) (by kernel_rfl) (by simp) ?_;refine AllReadyH.cons (o:=_) rfl (fun K hK=>?ab8_8) AllReadyH.nil
        case ab8_8 =>
         rw [iP (by kernel_rfl)];obtain ⟨v9,x9,hr,hu⟩:=HU8.out.appL k8 kd (by simp) (by have:=HLO.out;first | (rw [yD];exact this) | (rw [zZ];exact this));refine zM _ _ _ _ hr rfl rfl rfl rfl ?_;refine hK.out _ _ (hu.kid1 (a:=(a:Int)) (s:=s) (by simp)) (fun hH9=>?_);clear hK K hr hH8;have HU9:=Hd hu;clear hu;(try simp only [qA,qL,qZ,qS])
         refine tH 9 _ hH9 ?_;refine tH 10 _ hH9 ?_;refine wpAnyH_done (by kernel_rfl) ?_ _;refine NoPanic.normal ?_;have HX:=Hd (HFIN.out _ _ _ _ HU9.out);go_wp2_with fail
         case roundEnd=>exact ⟨HX.out,HMS.out⟩
      case ab6_7 =>
       go_simp;have hu:=HU6.out.build (litB kd);refine hK.out _ (x6.alloc (litB kd)) (hu.kid1 (a:=(a:Int)) (s:=s) (by simp)) (fun hH12=>?_);clear hK K hH6;have HU12:=Hd hu;clear hu;generalize x6.alloc (litB kd)=x12 at *;generalize x6.heap.size=k12 at *;(try simp only [qA,qL,qZ,qS])
       refine wpAnyH_ready (rs:=[3]) (by kernel_rfl) (by simp) ?_;refine AllReadyH.cons (o:=_) rfl (fun K hK=>?ab12_3) AllReadyH.nil
       case ab12_3 =>
        rw [iP (by kernel_rfl)];obtain ⟨v13,x13,hr,hu⟩:=HU12.out.appO k6 (i:Int) (by simp) (by have:=HLO.out;first | (rw [yD];exact this) | (rw [zZ];exact this));refine zM _ _ _ _ hr rfl rfl rfl rfl ?_;refine hK.out _ _ (hu.kid1 (a:=(a:Int)) (s:=s) (by simp)) (fun hH13=>?_);clear hK K hr hH12;have HU13:=Hd hu;clear hu;(try simp only [qA,qL,qZ,qS])
        refine wpAnyH_ready (rs:=[8]) (by kernel_rfl) (by simp) ?_;refine AllReadyH.cons (o:=_) rfl (fun K hK=>?ab13_8) AllReadyH.nil
        case ab13_8 =>
         rw [iP (by kernel_rfl)];obtain ⟨v14,x14,hr,hu⟩:=HU13.out.appL k12 kd (by simp) (by have:=HLO.out;first | (rw [yD];exact this) | (rw [zZ];exact this));refine zM _ _ _ _ hr rfl rfl rfl rfl ?_;refine hK.out _ _ (hu.kid1 (a:=(a:Int)) (s:=s) (by simp)) (fun hH14=>?_);clear hK K hr hH13;have HU14:=Hd hu;clear hu;(try simp only [qA,qL,qZ,qS])
         refine tH 9 _ hH14 ?_;refine tH 10 _ hH14 ?_;refine wpAnyH_done (by kernel_rfl) ?_ _;refine NoPanic.normal ?_;have HX:=Hd (HFIN.out _ _ _ _ HU14.out);go_wp2_with fail
         case roundEnd=>exact ⟨HX.out,HMS.out⟩
     case ab5_7 =>
      go_simp;have hu:=HD.out.build (litB kd);refine hK.out _ (wd.alloc (litB kd)) (hu.kid1 (a:=(a:Int)) (s:=s) (by simp)) (fun hH17=>?_);clear hK K hHeld;have HU17:=Hd hu;clear hu;generalize wd.alloc (litB kd)=x17 at *;generalize wd.heap.size=k17 at *;(try simp only [qA,qL,qZ,qS])
      refine wpAnyH_ready (rs:=[2]) (by kernel_rfl) (by simp) ?_;refine AllReadyH.cons (o:=_) rfl (fun K hK=>?ab17_2) AllReadyH.nil
      case ab17_2 =>
       go_simp;have hu:=HU17.out.build (litB (i:Int));refine hK.out _ (x17.alloc (litB (i:Int))) (hu.kid1 (a:=(a:Int)) (s:=s) (by simp)) (fun hH18=>?_);clear hK K hH17;have HU18:=Hd hu;clear hu;generalize x17.alloc (litB (i:Int))=x18 at *;generalize x17.heap.size=k18 at *;(try simp only [qA,qL,qZ,qS])
       refine wpAnyH_ready (rs:=[3]) (by kernel_rfl) (by simp) ?_;refine AllReadyH.cons (o:=_) rfl (fun K hK=>?ab18_3) AllReadyH.nil
       case ab18_3 =>
        rw [iP (by kernel_rfl)];obtain ⟨v19,x19,hr,hu⟩:=HU18.out.appO k18 (i:Int) (by simp) (by have:=HLO.out;first | (rw [yD];exact this) | (rw [zZ];exact this));refine zM _ _ _ _ hr rfl rfl rfl rfl ?_;refine hK.out _ _ (hu.kid1 (a:=(a:Int)) (s:=s) (by simp)) (fun hH19=>?_);clear hK K hr hH18;have HU19:=Hd hu;clear hu;(try simp only [qA,qL,qZ,qS])
        refine wpAnyH_ready (rs:=[8]) (by kernel_rfl) (by simp) ?_;refine AllReadyH.cons (o:=_) rfl (fun K hK=>?ab19_8) AllReadyH.nil
        case ab19_8 =>
         rw [iP (by kernel_rfl)];obtain ⟨v20,x20,hr,hu⟩:=HU19.out.appL k17 kd (by simp) (by have:=HLO.out;first | (rw [yD];exact this) | (rw [zZ];exact this));refine zM _ _ _ _ hr rfl rfl rfl rfl ?_;refine hK.out _ _ (hu.kid1 (a:=(a:Int)) (s:=s) (by simp)) (fun hH20=>?_);clear hK K hr hH19;have HU20:=Hd hu;clear hu;(try simp only [qA,qL,qZ,qS])
         refine tH 9 _ hH20 ?_;refine tH 10 _ hH20 ?_;refine wpAnyH_done (by kernel_rfl) ?_ _;refine NoPanic.normal ?_;have HX:=Hd (HFIN.out _ _ _ _ HU20.out);go_wp2_with fail
         case roundEnd=>exact ⟨HX.out,HMS.out⟩
    | cons x r =>
     obtain ⟨o,c⟩:=x;obtain ⟨bo,bl,co2,cl2,rfl,rfl,hco2,hcl2,c1,c2,z2,hne⟩:=HW3.out.topc;have hrl:r.length+1≤i:=hst2;have hr0:(0:Int)≤(r.length:Int):=by omega
     have hln0:(0:Int)<(r.length:Int)+1:=by omega
     have hwl:IntKind.i64.wrap ((r.length:Int)+1-1)=(r.length:Int):=wI (by omega);have hrlt:(r.length:Int)<(r.length:Int)+1:=by omega
     have hrc:(r.length:Int)<(co2:Int):=by omega
     have hrc':(r.length:Int)≤(co2:Int):=by omega
     have hrd:(r.length:Int)<(cl2:Int):=by omega
     have hrd':(r.length:Int)≤(cl2:Int):=by omega
     simp only [lC] at *;by_cases hc:c=0
     ·subst hc;have HNX:Hid (∀ k,upIn l B B w (E.set i (-1)) i gp (a:Int) kd s (.slice (some ⟨bo,0,none⟩) r.length co2) (.slice (some ⟨bl,0,none⟩) r.length cl2) (wr.drewN k)):=Hd fun k=>⟨r,HI2.out.pop,by omega,HW3.out.popc.drewN k⟩
      have HMS2:Hid (r.length<r.length+1):=Hd (by omega);go_wp2_with fail;go_quiet (fail);go_wp2_with fail
      case roundEnd=>exact ⟨HNX.out _,HMS2.out⟩
     ·have hcb:=(HI2.out.cbound HWL.out);have hwc:IntKind.i64.wrap (c-1)=c-1:=wI (by omega);have hcz:(c == 0)=false:=by rw [bE];exact hc
      have htop:=HI2.out.top HWL.out hc;have HW4:=Hd (HW3.out.put i (o:Int));have HW5:=Hd (HW4.out.lessc (c-1));have hx1:=HW3.out.outc i (by rw [List.length_set,HEL.out];exact hlt);obtain ⟨e1,e2⟩:=hx1;have f2:(wr.setCell ⟨B,i,none⟩ (.int .i64 (o:Int))).cell? ⟨bl,r.length,none⟩=some (.int .i64 c):=by
       rw [kR (by exact hne)];exact c2
      have f3:(wr.setCell ⟨B,i,none⟩ (.int .i64 (o:Int))).frozen? ⟨bl,r.length,none⟩=false:=by
       obtain ⟨bo',bl',co',cl',q1,q2,_,_,_,_,q3,_⟩:=HW4.out.topc;simp only [Value.slice.injEq,Option.some.injEq,Addr.mk.injEq,and_true,true_and] at q2;rw [q2.1];exact q3
      have HFIN:Hid (∀ vo' vl' L w',UpW B B w ((E.set i (-1)).set i (o:Int)) (osL ((o,c-1)::r)++[(i:Int)]) (csL ((o,c-1)::r)++[kd]) vo' vl' L w'→upRel l B B w vo' vl' (.int .i64 ((i:Int)+1)) w'):=Hd fun vo' vl' L w' h=>by
       refine ⟨i+1,(i,kd)::(o,c-1)::r,(E.set i (-1)).set i (o:Int),by push_cast;rfl,by omega,?_,by simp only [lC];omega,by rw [List.length_set,List.length_set];exact HEL.out,fun j hj=>?_,by rw [fF i,fG i];exact h.less_known⟩
       ·have:=HI2.out.push HWL.out hc hlt;rw [← HP.out] at this;exact this
       ·rw [List.set_set,gD,List.getElem?_set];by_cases e:i=j
        ·subst e;rw [iP rfl,iP (by rw [HEL.out];exact hlt)];exact htop.1.symm
        ·rw [iN e,← gD];exact HEQ.out j (by omega)
      have HLO:Hid (((o,c-1)::r).length≤1000000000):=Hd (by simp only [lC];omega);clear htop;go_wp2_with fail;clear c1 c2 z2 e1 e2 f2 f3;generalize (World.setCell (World.setCell _ _ _) _ _)=W5 at *;refine wp_region_noPanic ?_;refine wp_region_held_drew (S:=fun W'=>W'.cell? ⟨gp,1,none⟩=some (.int .i64 kd)) (by kernel_rfl) (HW5.out.drew.kid1 (List.mem_cons_self ..)) (fun hHeld=>?_);have HD:=Hd HW5.out.drew;generalize W5.drew=wd at *;refine tH 0 _ hHeld ?_;refine tH 1 _ hHeld ?_;refine tH 4 _ hHeld ?_;refine tH 5 _ hHeld ?_;refine tH 6 _ hHeld ?_;refine wpAnyH_ready (rs:=[2,7]) (by kernel_rfl) (by simp) ?_;refine AllReadyH.cons (o:=_) rfl (fun K hK=>?ac5_2) (AllReadyH.cons (o:=_) rfl (fun K hK=>?ac5_7) AllReadyH.nil)
      case ac5_2 =>
       go_simp;have hu:=HD.out.build (litB (i:Int));refine hK.out _ (wd.alloc (litB (i:Int))) (hu.kid1 (a:=(a:Int)) (s:=s) (by simp)) (fun hH6=>?_);clear hK K hHeld;have HU6:=Hd hu;clear hu;generalize wd.alloc (litB (i:Int))=x6 at *;generalize wd.heap.size=k6 at *;(try simp only [qA,qL,qZ,qS])
       refine wpAnyH_ready (rs:=[3,7]) (by kernel_rfl) (by simp) ?_;refine AllReadyH.cons (o:=_) rfl (fun K hK=>?ac6_3) (AllReadyH.cons (o:=_) rfl (fun K hK=>?ac6_7) AllReadyH.nil)
       case ac6_3 =>
        rw [iP (by kernel_rfl)];obtain ⟨v7,x7,hr,hu⟩:=HU6.out.appO k6 (i:Int) (by simp) (by have:=HLO.out;first | (rw [yD];exact this) | (rw [zZ];exact this));refine zM _ _ _ _ hr rfl rfl rfl rfl ?_;refine hK.out _ _ (hu.kid1 (a:=(a:Int)) (s:=s) (by simp)) (fun hH7=>?_);clear hK K hr hH6;have HU7:=Hd hu;clear hu;(try simp only [qA,qL,qZ,qS])
        refine wpAnyH_ready (rs:=[7]) (by kernel_rfl) (by simp) ?_;refine AllReadyH.cons (o:=_) rfl (fun K hK=>?ac7_7) AllReadyH.nil
        case ac7_7 =>
         go_simp;have hu:=HU7.out.build (litB kd);refine hK.out _ (x7.alloc (litB kd)) (hu.kid1 (a:=(a:Int)) (s:=s) (by simp)) (fun hH8=>?_);clear hK K hH7;have HU8:=Hd hu;clear hu;generalize x7.alloc (litB kd)=x8 at *;generalize x7.heap.size=k8 at *;(try simp only [qA,qL,qZ,qS])
         refine wpAnyH_ready (rs:=[8]) (by kernel_rfl) (by simp) ?_;refine AllReadyH.cons (o:=_) rfl (fun K hK=>?ac8_8) AllReadyH.nil
         case ac8_8 =>
          rw [iP (by kernel_rfl)];obtain ⟨v9,x9,hr,hu⟩:=HU8.out.appL k8 kd (by simp) (by have:=HLO.out;first | (rw [yD];exact this) | (rw [zZ];exact this));refine zM _ _ _ _ hr rfl rfl rfl rfl ?_;refine hK.out _ _ (hu.kid1 (a:=(a:Int)) (s:=s) (by simp)) (fun hH9=>?_);clear hK K hr hH8;have HU9:=Hd hu;clear hu;(try simp only [qA,qL,qZ,qS])
          refine tH 9 _ hH9 ?_;refine tH 10 _ hH9 ?_;refine wpAnyH_done (by kernel_rfl) ?_ _;refine NoPanic.normal ?_;have HX:=Hd (HFIN.out _ _ _ _ HU9.out);go_wp2_with fail
          case roundEnd=>exact ⟨HX.out,HMS.out⟩
       case ac6_7 =>
        go_simp;have hu:=HU6.out.build (litB kd);refine hK.out _ (x6.alloc (litB kd)) (hu.kid1 (a:=(a:Int)) (s:=s) (by simp)) (fun hH12=>?_);clear hK K hH6;have HU12:=Hd hu;clear hu;generalize x6.alloc (litB kd)=x12 at *;generalize x6.heap.size=k12 at *;(try simp only [qA,qL,qZ,qS])
        refine wpAnyH_ready (rs:=[3]) (by kernel_rfl) (by simp) ?_;refine AllReadyH.cons (o:=_) rfl (fun K hK=>?ac12_3) AllReadyH.nil
        case ac12_3 =>
         rw [iP (by kernel_rfl)];obtain ⟨v13,x13,hr,hu⟩:=HU12.out.appO k6 (i:Int) (by simp) (by have:=HLO.out;first | (rw [yD];exact this) | (rw [zZ];exact this));refine zM _ _ _ _ hr rfl rfl rfl rfl ?_;refine hK.out _ _ (hu.kid1 (a:=(a:Int)) (s:=s) (by simp)) (fun hH13=>?_);clear hK K hr hH12;have HU13:=Hd hu;clear hu;(try simp only [qA,qL,qZ,qS])
         refine wpAnyH_ready (rs:=[8]) (by kernel_rfl) (by simp) ?_;refine AllReadyH.cons (o:=_) rfl (fun K hK=>?ac13_8) AllReadyH.nil
         case ac13_8 =>
          rw [iP (by kernel_rfl)];obtain ⟨v14,x14,hr,hu⟩:=HU13.out.appL k12 kd (by simp) (by have:=HLO.out;first | (rw [yD];exact this) | (rw [zZ];exact this));refine zM _ _ _ _ hr rfl rfl rfl rfl ?_;refine hK.out _ _ (hu.kid1 (a:=(a:Int)) (s:=s) (by simp)) (fun hH14=>?_);clear hK K hr hH13;have HU14:=Hd hu;clear hu;(try simp only [qA,qL,qZ,qS])
          refine tH 9 _ hH14 ?_;refine tH 10 _ hH14 ?_;refine wpAnyH_done (by kernel_rfl) ?_ _;refine NoPanic.normal ?_;have HX:=Hd (HFIN.out _ _ _ _ HU14.out);go_wp2_with fail
          case roundEnd=>exact ⟨HX.out,HMS.out⟩
      case ac5_7 =>
       go_simp;have hu:=HD.out.build (litB kd);refine hK.out _ (wd.alloc (litB kd)) (hu.kid1 (a:=(a:Int)) (s:=s) (by simp)) (fun hH17=>?_);clear hK K hHeld;have HU17:=Hd hu;clear hu;generalize wd.alloc (litB kd)=x17 at *;generalize wd.heap.size=k17 at *;(try simp only [qA,qL,qZ,qS])
       refine wpAnyH_ready (rs:=[2]) (by kernel_rfl) (by simp) ?_;refine AllReadyH.cons (o:=_) rfl (fun K hK=>?ac17_2) AllReadyH.nil
       case ac17_2 =>
        go_simp;have hu:=HU17.out.build (litB (i:Int));refine hK.out _ (x17.alloc (litB (i:Int))) (hu.kid1 (a:=(a:Int)) (s:=s) (by simp)) (fun hH18=>?_);clear hK K hH17;have HU18:=Hd hu;clear hu;generalize x17.alloc (litB (i:Int))=x18 at *;generalize x17.heap.size=k18 at *;(try simp only [qA,qL,qZ,qS])
        refine wpAnyH_ready (rs:=[3]) (by kernel_rfl) (by simp) ?_;refine AllReadyH.cons (o:=_) rfl (fun K hK=>?ac18_3) AllReadyH.nil
        case ac18_3 =>
         rw [iP (by kernel_rfl)];obtain ⟨v19,x19,hr,hu⟩:=HU18.out.appO k18 (i:Int) (by simp) (by have:=HLO.out;first | (rw [yD];exact this) | (rw [zZ];exact this));refine zM _ _ _ _ hr rfl rfl rfl rfl ?_;refine hK.out _ _ (hu.kid1 (a:=(a:Int)) (s:=s) (by simp)) (fun hH19=>?_);clear hK K hr hH18;have HU19:=Hd hu;clear hu;(try simp only [qA,qL,qZ,qS])
         refine wpAnyH_ready (rs:=[8]) (by kernel_rfl) (by simp) ?_;refine AllReadyH.cons (o:=_) rfl (fun K hK=>?ac19_8) AllReadyH.nil
         case ac19_8 =>
          rw [iP (by kernel_rfl)];obtain ⟨v20,x20,hr,hu⟩:=HU19.out.appL k17 kd (by simp) (by have:=HLO.out;first | (rw [yD];exact this) | (rw [zZ];exact this));refine zM _ _ _ _ hr rfl rfl rfl rfl ?_;refine hK.out _ _ (hu.kid1 (a:=(a:Int)) (s:=s) (by simp)) (fun hH20=>?_);clear hK K hr hH19;have HU20:=Hd hu;clear hu;(try simp only [qA,qL,qZ,qS])
          refine tH 9 _ hH20 ?_;refine tH 10 _ hH20 ?_;refine wpAnyH_done (by kernel_rfl) ?_ _;refine NoPanic.normal ?_;have HX:=Hd (HFIN.out _ _ _ _ HU20.out);go_wp2_with fail
          case roundEnd=>exact ⟨HX.out,HMS.out⟩
  ·have hkl:i=l.length:=by omega
   subst hkl;have hEE:E=upsL l:=by
    apply List.ext_getElem (by rw [HEL.out,vZ]);intro j h1 h2;have h3:=HEQ.out j (by have:=HEL.out;omega);rw [gD,gE h1] at h3;simp only [Option.getD_some] at h3;rw [h3,zHm]
   subst hEE;have HX:=Hd (HQ.out (.slice (some ⟨B,0,none⟩) l.length l.length) wr HW.out.below (zPv HW.out.out (vZ l).symm));have hnl:¬ (l.length:Int)<l.length:=by omega
   go_wp2_with fail;exact HX.out
end Go.Proofs.YtbjkdmbcpkopjaaGreatDoor
