/- Layer 19: the queue's methods Push and Pop. -/
import Derived.Test.YtfalelkfhandfaaGreatDoorPackMq
import Derived.Test.YtfalelkfhandfaaGreatDoorTwoRMq
import Derived.Test.YtfalelkfhandfaaGreatDoorQuoted6Mq
import Derived.Test.YtfalelkfhandfaaGreatDoorTerm3Mq
namespace Go.Proofs.YtfalelkfhandfaaGreatDoor
set_option maxRecDepth 100000
set_option maxHeartbeats 32000000
set_option linter.all false
attribute [local irreducible] Calls
attribute [local irreducible] wpStill
open Go.RowKit

theorem zAb (W:World) (a:Addr) (u:Value):(W.setCell a u).heap.size=W.heap.size:=by simp
theorem zOd (v:Value) (w:World):(Instr.typeAssert (.iface 100 v) 20 100 true).run Tryz.prog w=.ok (.tuple #[v,.bool true]) w:=by kernel_rfl
def itA (y:It) (s:Option Addr) (m t:Nat):Value:=.agg #[.int .i64 (y.1.1.1:Int),.int .i64 (y.1.1.2.1:Int),.slice s m t,.int .i64 (y.2:Int)]
theorem QIn.push {w W:World} {gq:Nat} {ys:List It} (h:QIn w gq ys W) {a:Option Addr} {c:Nat} (hc:W.heap[gq]?=some (.cells #[.slice a ys.length c] 97 (0,0))) (hr:ItRow w.heap.size W (.slice a ys.length c) ys) (hl:ys.length≤1000000) (y:It) {s:Option Addr} {m t:Nat} (hy:y.1.2=.slice s m t) :
  ∃ va vn vc w',(Builtin.append_ #[97,97] 97 #[.slice a ys.length c,.slice (some ⟨W.heap.size,0,none⟩) 1 1]).run Tryz.prog (W.alloc (.cells #[.int .i64 (y.1.1.1:Int),.int .i64 (y.1.1.2.1:Int),.slice s m t,.int .i64 (y.2:Int)] 100))=.ok (.slice va vn vc) w' ∧
   (w'.cell? ⟨gq,0,none⟩=some (.slice a ys.length c)∧w'.frozen? ⟨gq,0,none⟩=false)∧QIn w gq (ys++[y]) (w'.setCell ⟨gq,0,none⟩ (.slice va vn vc))∧KpQ W (w'.setCell ⟨gq,0,none⟩ (.slice va vn vc)):=by
 have hs:=h.below.size
 obtain ⟨v',w',h1,h2,h3,h4⟩:=yH (P:=Tryz.prog) W #[.int .i64 (y.1.1.1:Int),.int .i64 (y.1.1.2.1:Int),.slice s m t,.int .i64 (y.2:Int)] 100 97 97 100 Tryz.underlying97 w.heap.size zMp rfl (by decide) _ ys.length (itsV ys) hr 1 1 rfl (Nat.le_refl _)
  (by intro u hu;simp at hu;rcases hu with rfl | rfl | rfl | rfl <;> rfl) (by omega) (by omega) hs
 obtain ⟨va,vn,vc,rfl⟩:=zC h2
 have ba:Below W.heap.size W (W.alloc (.cells #[.int .i64 (y.1.1.1:Int),.int .i64 (y.1.1.2.1:Int),.slice s m t,.int .i64 (y.2:Int)] 100)):=(Below.refl _ _).alloc (Nat.le_refl _) _
 have ra:=zL hr ba
 have ca:=keeps ba hc
 have hbl:=xT (zB h.below ba) (by have:=ba.size;omega) ra h3
 have hoth:∀ (k:Nat) (cs:Array Value) (T:TypeId) (fr:Nat×Nat),(W.alloc (.cells #[.int .i64 (y.1.1.1:Int),.int .i64 (y.1.1.2.1:Int),.slice s m t,.int .i64 (y.2:Int)] 100)).heap[k]?=some (.cells cs T fr)→T≠100→w'.heap[k]?=some (.cells cs T fr):=fun k cs T fr hk hT=>by
  rw [h3.block k (zD hk) (fun e=>?_),hk]
  rcases ra.2 with ⟨hv,_⟩ | ⟨g,cap,cur,hv,_,hh,_⟩
  ·rw [hv] at e;simp [Value.ownBlock] at e
  ·rw [hv] at e
   simp [Value.ownBlock] at e
   subst e
   rw [hk] at hh
   cases hh
   exact hT rfl
 have c':=hoth _ _ _ _ ca (by decide)
 have hne:∀ (k:Nat) (cs:Array Value) (fr:Nat×Nat),w'.heap[k]?=some (.cells cs 100 fr)→k≠gq:=fun k cs fr hk e=>by subst e;rw [c'] at hk;cases hk
 refine ⟨va,vn,vc,w',h1,⟨by simp [World.cell?,c'],by simp [World.frozen?,c']⟩,⟨hbl.setCell (p:=⟨gq,0,none⟩) h.lo _,h.lo,.slice va vn vc,heap_setCell_same w' gq 0 _ _ _ c',?_⟩,⟨?_,?_⟩⟩
 ·unfold ItRow
  rw [List.length_append,zPg,show itV y=(#[.int .i64 (y.1.1.1:Int),.int .i64 (y.1.1.2.1:Int),.slice s m t,.int .i64 (y.2:Int)]:Array Value).toList by unfold itV;rw [hy]]
  exact yJ h2 (fun k cs fr hk=>heap_setCell_other _ _ _ _ (hne k cs fr hk))
 ·have g1:=h3.size;have g2:=ba.size;simp only [zAb];omega
 ·intro k cs T fr hk h1 h2
  rw [heap_setCell_other _ _ _ _ (fun e=>by subst e;rw [hc] at hk;cases hk;exact h2 rfl),hoth k cs T fr (keeps ba hk) h1,hk]
theorem zVe {w W:World} {gq:Nat} {ys:List It} (h:QIn w gq ys W) (hl:ys.length≤1000000) (y:It) {s:Option Addr} {m t:Nat} (hy:y.1.2=.slice s m t) :
  Calls Tryz.prog 204 #[.pointer (some ⟨gq,0,none⟩),.iface 100 (itA y s m t)] W fun e w'=>e=.returned (.tuple #[])∧QIn w gq (ys++[y]) w'∧KpQ W w':=by
 unfold itA
 have HQ:Hid (∀ W',QIn w gq (ys++[y]) W'→KpQ W W'→(fun (e:Ending) (w':World)=>e=.returned (.tuple #[])∧QIn w gq (ys++[y]) w'∧KpQ W w') (.returned (.tuple #[])) W'):=Hd fun W' h1 h2=>⟨rfl,h1,h2⟩
 generalize (fun (e:Ending) (w':World)=>e=.returned (.tuple #[])∧QIn w gq (ys++[y]) w'∧KpQ W w')=Q at *
 have H:=Hd h
 have HY:=Hd hy
 clear h hy
 have hTA:=fun v (X:World)=>zOd v X
 go_enter Tryz.func204,Tryz.ntmps204
 go_wp2_with fail
 have hb1:Below W.heap.size W (W.alloc (.cells #[.int .i64 (y.1.1.1:Int),.int .i64 (y.1.1.2.1:Int),.slice s m t,.int .i64 (y.2:Int)] 100)).drew:=((Below.refl _ _).alloc (Nat.le_refl _) _).drew
 have H1:=Hd (H.out.ext hb1)
 have HK1:=Hd (KpQ.of_below hb1)
 have hg:=heap_alloc_new W (.cells #[.int .i64 (y.1.1.1:Int),.int .i64 (y.1.1.2.1:Int),.slice s m t,.int .i64 (y.2:Int)] 100)
 obtain ⟨a,c,hc,d1,d2,hr,hlc⟩:=H1.out.cell
 have hS0:(W.alloc (.cells #[.int .i64 (y.1.1.1:Int),.int .i64 (y.1.1.2.1:Int),.slice s m t,.int .i64 (y.2:Int)] 100)).drew.cell? ⟨gq,0,none⟩=some (.slice a ys.length c)∧(W.alloc (.cells #[.int .i64 (y.1.1.1:Int),.int .i64 (y.1.1.2.1:Int),.slice s m t,.int .i64 (y.2:Int)] 100)).drew.cell? ⟨W.heap.size,0,none⟩=some (.int .i64 (y.1.1.1:Int))∧(W.alloc (.cells #[.int .i64 (y.1.1.1:Int),.int .i64 (y.1.1.2.1:Int),.slice s m t,.int .i64 (y.2:Int)] 100)).drew.cell? ⟨W.heap.size,1,none⟩=some (.int .i64 (y.1.1.2.1:Int))∧(W.alloc (.cells #[.int .i64 (y.1.1.1:Int),.int .i64 (y.1.1.2.1:Int),.slice s m t,.int .i64 (y.2:Int)] 100)).drew.cell? ⟨W.heap.size,2,none⟩=some (.slice s m t)∧(W.alloc (.cells #[.int .i64 (y.1.1.1:Int),.int .i64 (y.1.1.2.1:Int),.slice s m t,.int .i64 (y.2:Int)] 100)).drew.cell? ⟨W.heap.size,3,none⟩=some (.int .i64 (y.2:Int)):=by
  refine ⟨d1,?_⟩
  simp only [World.cell?,World.drew,hg]
  exact ⟨rfl,rfl,rfl,rfl⟩
 have HS0:=Hd hS0
 have HLT:Hid (gq<(W.alloc (.cells #[.int .i64 (y.1.1.1:Int),.int .i64 (y.1.1.2.1:Int),.slice s m t,.int .i64 (y.2:Int)] 100)).drew.heap.size∧W.heap.size<(W.alloc (.cells #[.int .i64 (y.1.1.1:Int),.int .i64 (y.1.1.2.1:Int),.slice s m t,.int .i64 (y.2:Int)] 100)).drew.heap.size):=Hd ⟨zD hc,by show W.heap.size<(W.alloc _).heap.size;rw [World.size_alloc];omega⟩
 have HRW:=Hd hr
 have HC:=Hd hc
 clear d1 d2 hr hc hS0 hb1 hg
 refine kK (S:=fun X=>X.cell? ⟨gq,0,none⟩=some (.slice a ys.length c)∧X.cell? ⟨W.heap.size,0,none⟩=some (.int .i64 (y.1.1.1:Int))∧X.cell? ⟨W.heap.size,1,none⟩=some (.int .i64 (y.1.1.2.1:Int))∧X.cell? ⟨W.heap.size,2,none⟩=some (.slice s m t)∧X.cell? ⟨W.heap.size,3,none⟩=some (.int .i64 (y.2:Int))) [6] (by kernel_rfl) ?_
 generalize (W.alloc (.cells #[.int .i64 (y.1.1.1:Int),.int .i64 (y.1.1.2.1:Int),.slice s m t,.int .i64 (y.2:Int)] 100)).drew=W1 at *
 obtain ⟨va,vn,vc,w6,hap,⟨k1,k2⟩,hq,hk⟩:=H1.out.push HC.out HRW.out hl y HY.out
 have HAP:=Hd hap
 have HQ6:=Hd hq
 have HK6:=Hd (HK1.out.trans hk)
 have hS0:=HS0.out
 have hSA:(W1.alloc (.cells #[.int .i64 (y.1.1.1:Int),.int .i64 (y.1.1.2.1:Int),.slice s m t,.int .i64 (y.2:Int)] 100)).cell? ⟨gq,0,none⟩=some (.slice a ys.length c)∧(W1.alloc (.cells #[.int .i64 (y.1.1.1:Int),.int .i64 (y.1.1.2.1:Int),.slice s m t,.int .i64 (y.2:Int)] 100)).cell? ⟨W.heap.size,0,none⟩=some (.int .i64 (y.1.1.1:Int))∧(W1.alloc (.cells #[.int .i64 (y.1.1.1:Int),.int .i64 (y.1.1.2.1:Int),.slice s m t,.int .i64 (y.2:Int)] 100)).cell? ⟨W.heap.size,1,none⟩=some (.int .i64 (y.1.1.2.1:Int))∧(W1.alloc (.cells #[.int .i64 (y.1.1.1:Int),.int .i64 (y.1.1.2.1:Int),.slice s m t,.int .i64 (y.2:Int)] 100)).cell? ⟨W.heap.size,2,none⟩=some (.slice s m t)∧(W1.alloc (.cells #[.int .i64 (y.1.1.1:Int),.int .i64 (y.1.1.2.1:Int),.slice s m t,.int .i64 (y.2:Int)] 100)).cell? ⟨W.heap.size,3,none⟩=some (.int .i64 (y.2:Int)):=by
  have hlt:=HLT.out
  simp only [World.cell?,Below.heap_alloc _ _ _ hlt.1,Below.heap_alloc _ _ _ hlt.2]
  exact hS0
 clear hap hq hk
 refine tkF 0 12 ?vq1 rfl ?hyq1 (fun _=>hS0) ?restq1
 case hyq1=>intro w q;clear q;go_simp;(try with_reducible rfl)
 (try simp only [aP])
 refine tkF 1 13 ?vq2 rfl ?hyq2 (fun _=>hS0) ?restq2
 case hyq2=>intro w q;clear q;go_simp;(try with_reducible rfl)
 (try simp only [aP])
 refine tkF 2 14 ?vq3 rfl ?hyq3 (fun _=>hS0) ?restq3
 case hyq3=>intro w q;clear q;go_simp;(try with_reducible rfl)
 (try simp only [aP])
 refine tkU [6,7,8] 3 15 ?vq4 rfl ?hyq4 hS0 ?restq4
 case hyq4=>intro w q;(try dsimp only at q);go_simp;(try with_reducible rfl)
 (try simp only [aP])
 refine tkU [5,6,7,8] 4 16 ?vq5 rfl ?hyq5 hS0 ?restq5
 case hyq5=>intro w q;(try dsimp only at q);go_simp;(try with_reducible rfl)
 (try simp only [aP])
 refine zP (rs:=[5]) (by kernel_rfl) (by simp) ?_
 refine zE.cons (o:=⟨some 17,_,_,_,_,_⟩) rfl (fun K hK=>?_) zE.nil
 go_simp
 refine hK.out _ _ (fun _=>hSA) ?_
 clear hK K
 (try simp only [aP])
 refine zP (rs:=[6]) (by kernel_rfl) (by simp) ?_
 refine zE.cons (o:=⟨some 18,_,_,_,_,_⟩) rfl (fun K hK=>?_) zE.nil
 refine zY _ _ _ _ HAP.out rfl rfl rfl rfl ?_
 refine hK.out _ _ (fun h=>Bool.noConfusion (h.symm.trans (by kernel_rfl:_=false))) ?_
 clear hK K
 (try simp only [aP])
 refine zP (rs:=[7]) (by kernel_rfl) (by simp) ?_
 refine zE.cons (o:=⟨some 19,_,_,_,_,_⟩) rfl (fun K hK=>?_) zE.nil
 go_simp
 refine hK.out _ _ (fun h=>Bool.noConfusion (h.symm.trans (by kernel_rfl:_=false))) ?_
 clear hK K
 (try simp only [aP])
 refine zP (rs:=[8]) (by kernel_rfl) (by simp) ?_
 refine zE.cons (o:=⟨none,_,_,_,_,_⟩) rfl (fun K hK=>?_) zE.nil
 go_simp
 refine hK.out _ _ (fun h=>Bool.noConfusion (h.symm.trans (by kernel_rfl:_=false))) ?_
 clear hK K
 (try simp only [aP])
 refine kQ (by kernel_rfl) ?_ _
 go_wp2_with fail
 go_end0
 exact HQ.out _ HQ6.out HK6.out
end Go.Proofs.YtfalelkfhandfaaGreatDoor
namespace Go.Proofs.YtfalelkfhandfaaGreatDoor
set_option maxRecDepth 100000
set_option maxHeartbeats 32000000
set_option linter.all false
open Go Go.RowKit

theorem zMq (W:World) (gq:Nat) (a:Option Addr) (n c:Nat) (h:W.cell? ⟨gq,0,none⟩=some (.slice a n c)):(loadVar 97 ⟨gq,0,none⟩).run Tryz.prog W=.ok (.slice a n c) W:=by
 go_simp
abbrev FindsQ (W:World) (gq:Nat) (name:String) (f:Nat) (v:Value):Prop:=Sem.run Tryz.prog (method 342 95 (.pointer (some ⟨gq,0,none⟩)) name) W=.ok (f,v) W
theorem zXd {W : World} {gq : Nat} {a : Option Addr} {n c : Nat} (h : W.cell? ⟨gq, 0, none⟩ = some (.slice a n c)) : FindsQ W gq "Len" 75 (.slice a n c) := by
 have e : Sem.run Tryz.prog (method 342 95 (.pointer (some ⟨gq, 0, none⟩)) "Len") W = Sem.run Tryz.prog (do let v ← loadVar 97 ⟨gq, 0, none⟩; pure (75, v)) W := by kernel_rfl
 unfold FindsQ
 rw [e]
 have:=zMq W gq a n c h
 rw [Sem.run_bind,this,Result.andThen_ok,Sem.run_pure]
theorem zWm {W : World} {gq : Nat} {a : Option Addr} {n c : Nat} (h : W.cell? ⟨gq, 0, none⟩ = some (.slice a n c)) : FindsQ W gq "Less" 202 (.slice a n c) := by
 have e : Sem.run Tryz.prog (method 342 95 (.pointer (some ⟨gq, 0, none⟩)) "Less") W = Sem.run Tryz.prog (do let v ← loadVar 97 ⟨gq, 0, none⟩; pure (202, v)) W := by kernel_rfl
 unfold FindsQ
 rw [e]
 have:=zMq W gq a n c h
 rw [Sem.run_bind,this,Result.andThen_ok,Sem.run_pure]
theorem zWn {W : World} {gq : Nat} {a : Option Addr} {n c : Nat} (h : W.cell? ⟨gq, 0, none⟩ = some (.slice a n c)) : FindsQ W gq "Swap" 205 (.slice a n c) := by
 have e : Sem.run Tryz.prog (method 342 95 (.pointer (some ⟨gq, 0, none⟩)) "Swap") W = Sem.run Tryz.prog (do let v ← loadVar 97 ⟨gq, 0, none⟩; pure (205, v)) W := by kernel_rfl
 unfold FindsQ
 rw [e]
 have:=zMq W gq a n c h
 rw [Sem.run_bind,this,Result.andThen_ok,Sem.run_pure]
theorem zWo (W : World) (gq : Nat) : FindsQ W gq "Push" 204 (.pointer (some ⟨gq, 0, none⟩)) := by unfold FindsQ; kernel_rfl
theorem zXe (W : World) (gq : Nat) : FindsQ W gq "Pop" 203 (.pointer (some ⟨gq, 0, none⟩)) := by unfold FindsQ; kernel_rfl
theorem zWe (args:Array Value) (w:World):(callFunc 75 args).run Tryz.prog w=.ok (.enter 75 args) w:=kH Tryz.func75 (by kernel_rfl) rfl args w
theorem zSj (args:Array Value) (w:World):(callFunc 202 args).run Tryz.prog w=.ok (.enter 202 args) w:=kH Tryz.func202 (by kernel_rfl) rfl args w
theorem zMr (args:Array Value) (w:World):(callFunc 205 args).run Tryz.prog w=.ok (.enter 205 args) w:=kH Tryz.func205 (by kernel_rfl) rfl args w
theorem zWp (args:Array Value) (w:World):(callFunc 204 args).run Tryz.prog w=.ok (.enter 204 args) w:=kH Tryz.func204 (by kernel_rfl) rfl args w
theorem zXf (args:Array Value) (w:World):(callFunc 203 args).run Tryz.prog w=.ok (.enter 203 args) w:=kH Tryz.func203 (by kernel_rfl) rfl args w
def SlI (ys:List It):Prop:=∀ y∈ys,∃ s m t,y.1.2=.slice s m t
def SubI (zs ys:List It):Prop:=zs.length=ys.length∧∀ y∈zs,y∈ys
theorem SubI.refl (ys:List It):SubI ys ys:=⟨rfl,fun _ h=>h⟩
theorem SubI.trans {a b c:List It} (h:SubI a b) (k:SubI b c):SubI a c:=⟨h.1.trans k.1,fun y hy=>k.2 y (h.2 y hy)⟩
theorem SubI.sl {zs ys:List It} (h:SubI zs ys) (k:SlI ys):SlI zs:=fun y hy=>k y (h.2 y hy)
theorem SubI.swap (ys:List It) (a b:Nat) (ha hb):SubI (swapI ys a b ha hb) ys:=⟨zGo ..,fun _ h=>zPi h⟩
section
variable {w W:World} {gq:Nat} {ys:List It}
theorem QIn.len (h : QIn w gq ys W) : ∃ v, FindsQ W gq "Len" 75 v ∧ Calls Tryz.prog 75 #[v] W fun e w' => e = .returned (.int .i64 (ys.length : Int)) ∧ w' = W := by
 obtain ⟨a,c,_,hc,_,_,_⟩:=h.cell
 exact ⟨_,zXd hc,zSh _ _ _ _⟩
theorem QIn.parts (h:QIn w gq ys W) (hp:0<ys.length):∃ g c,W.heap[gq]?=some (.cells #[.slice (some ⟨g,0,none⟩) ys.length c] 97 (0,0))∧W.cell? ⟨gq,0,none⟩=some (.slice (some ⟨g,0,none⟩) ys.length c)∧ItRow w.heap.size W (.slice (some ⟨g,0,none⟩) ys.length c) ys∧ys.length≤c∧g<W.heap.size:=by
 obtain ⟨a,c,h1,h2,_,h4,h5⟩:=h.cell
 obtain ⟨g,c',e,_,hlt,_⟩:=ItRow.shape h4 hp
 simp only [Value.slice.injEq,true_and] at e
 obtain ⟨rfl,rfl⟩:=e
 exact ⟨g,c,h1,h2,h4,h5,hlt⟩
theorem QIn.less (h : QIn w gq ys W) (hs : SlI ys) (hp : 0 < ys.length) : ∃ v, FindsQ W gq "Less" 202 v ∧ ∀ (i j : Nat) (hi : i < ys.length) (hj : j < ys.length), Calls Tryz.prog 202 #[v, .int .i64 (i : Int), .int .i64 (j : Int)] W fun e w' => (∃ z, e = .returned (.bool z)) ∧ Below W.heap.size W w' := by
 obtain ⟨g,c,_,h2,h4,h5,hlt⟩:=h.parts hp
 refine ⟨_,zWm h2,fun i j hi hj=>?_⟩
 obtain ⟨⟨a0,a1,a2,a3⟩,_⟩:=ItRow.cells h4 rfl i hi
 obtain ⟨⟨b0,b1,b2,b3⟩,_⟩:=ItRow.cells h4 rfl j hj
 obtain ⟨s1,m1,t1,e1⟩:=hs _ (List.getElem_mem hi)
 obtain ⟨s2,m2,t2,e2⟩:=hs _ (List.getElem_mem hj)
 rw [e1] at a2
 rw [e2] at b2
 exact (zVb g ys.length c i j W hi hj h5 hlt _ _ _ _ _ _ _ _ _ _ _ _ a0 a1 a2 a3 b0 b1 b2 b3)
theorem zGp {g:Nat} {X:World} (h:SameB g W X) (k:Nat) (r p:Int) (v:Value) (n:Int):SameB g W (putI X g k r p v n):=(((h.setCell _ _).setCell _ _).setCell _ _).setCell _ _
theorem QIn.swap (h : QIn w gq ys W) (hs : SlI ys) (hp : 0 < ys.length) : ∃ v, FindsQ W gq "Swap" 205 v ∧ ∀ (i j : Nat) (hi : i < ys.length) (hj : j < ys.length), Calls Tryz.prog 205 #[v, .int .i64 (i : Int), .int .i64 (j : Int)] W fun e w' => e = .returned (.tuple #[]) ∧ QIn w gq (swapI ys i j hi hj) w' ∧ KpQ W w' := by
 obtain ⟨g,c,h1,h2,h4,h5,hlt⟩:=h.parts hp
 refine ⟨_,zWn h2,fun i j hi hj=>?_⟩
 obtain ⟨⟨a0,a1,a2,a3⟩,hf⟩:=ItRow.cells h4 rfl i hi
 obtain ⟨⟨b0,b1,b2,b3⟩,_⟩:=ItRow.cells h4 rfl j hj
 obtain ⟨s1,m1,t1,e1⟩:=hs _ (List.getElem_mem hi)
 obtain ⟨s2,m2,t2,e2⟩:=hs _ (List.getElem_mem hj)
 have p1:=ItRow.put h4 i hi ys[j]
 have p2:=ItRow.put p1 j (by simpa using hj) ys[i]
 rw [e1] at a2 p2
 rw [e2] at b2 p1 p2
 refine ((zVc g ys.length c i j W hi hj h5 hlt _ _ _ _ _ _ _ _ _ _ _ _ hf a0 a1 a2 a3 b0 b1 b2 b3)).mono ?_
 rintro e w' ⟨rfl,rfl⟩
 exact ⟨rfl,QIn.turn h h1 h4 (by omega) (World.ownsRow.drew p2) (zGo ..) (SameB.drew (zGp (zGp (SameB.refl g W) _ _ _ _ _) _ _ _ _ _))⟩
end
attribute [local irreducible] Calls
theorem zWq {w W:World} {gq n:Nat} {ys:List It} (h:QIn w gq ys W) (hl:ys.length=n+1) (hbn:n≤1000000) (hs:SlI ys) :
  Calls Tryz.prog 203 #[.pointer (some ⟨gq,0,none⟩)] W fun e w'=>∃ y s m t,e=.returned (.iface 100 (itA y s m t))∧y∈ys∧y.1.2=.slice s m t∧QIn w gq (ys.take n) w'∧KpQ W w':=by
 obtain ⟨g,c,h1,h2,h4,h5,hlt⟩:=h.parts (by omega)
 obtain ⟨-,-,-,-,hfz,-,-⟩:=h.cell
 obtain ⟨⟨a0,a1,a2,a3⟩,-⟩:=ItRow.cells h4 rfl n (by omega)
 obtain ⟨s1,m1,t1,e1⟩:=hs _ (List.getElem_mem (show n<ys.length by omega))
 have hmem:ys[n]'(by omega)∈ys:=List.getElem_mem _
 rw [e1] at a2
 have hsz:=zD h1
 have HQ:Hid (∀ W',QIn w gq (ys.take n) W'→KpQ W W'→(fun (e:Ending) (w':World)=>∃ y s m t,e=.returned (.iface 100 (itA y s m t))∧y∈ys∧y.1.2=.slice s m t∧QIn w gq (ys.take n) w'∧KpQ W w') (.returned (.iface 100 (.agg #[.int .i64 ((ys[n]'(by omega)).1.1.1:Int),.int .i64 ((ys[n]'(by omega)).1.1.2.1:Int),.slice s1 m1 t1,.int .i64 ((ys[n]'(by omega)).2:Int)]))) W'):=Hd fun W' k1 k2=>⟨_,s1,m1,t1,rfl,hmem,e1,k1,k2⟩
 generalize (fun (e:Ending) (w':World)=>∃ y s m t,e=.returned (.iface 100 (itA y s m t))∧y∈ys∧y.1.2=.slice s m t∧QIn w gq (ys.take n) w'∧KpQ W w')=Q at *
 have hp:=h.pop (a:=some ⟨g,0,none⟩) (n:=n) (c:=c) (by rw [h1,hl]) hl h4
 have hb1:Below (W.setCell ⟨gq,0,none⟩ (.slice (some ⟨g,0,none⟩) n c)).heap.size (W.setCell ⟨gq,0,none⟩ (.slice (some ⟨g,0,none⟩) n c)) ((W.setCell ⟨gq,0,none⟩ (.slice (some ⟨g,0,none⟩) n c)).alloc (.cells #[.int .i64 ((ys[n]'(by omega)).1.1.1:Int),.int .i64 ((ys[n]'(by omega)).1.1.2.1:Int),.slice s1 m1 t1,.int .i64 ((ys[n]'(by omega)).2:Int)] 100)):=(Below.refl _ _).alloc (Nat.le_refl _) _
 have HX:=Hd (HQ.out _ (hp.1.ext hb1) (hp.2.trans (KpQ.of_below hb1)))
 clear HQ hp hb1 hmem e1
 rw [hl] at h2 h5
 clear h1 h4 h hs
 have hn0:(0:Int)≤n:=by omega
 have hnc:(n:Int)<c:=by omega
 have hbn':(n:Int)≤1000000:=by omega
 generalize (ys[n]'(by omega))=y at *
 obtain ⟨⟨⟨yr,yp,yb⟩,yv⟩,yk⟩:=y
 simp only [] at a0 a1 a2 a3 HX
 go_enter Tryz.func203,Tryz.ntmps203
 go_wp2_with fail
 exact HX.out
end Go.Proofs.YtfalelkfhandfaaGreatDoor
namespace Go.Proofs.YtfalelkfhandfaaGreatDoor
set_option maxRecDepth 100000
set_option maxHeartbeats 32000000
set_option linter.all false
attribute [local irreducible] Calls
open Go Go.RowKit

def HpIn (w:World) (gq:Nat) (ys:List It) (W:World) (zs:List It) (W':World):Prop:=QIn w gq zs W'∧KpQ W W'∧SubI zs ys
theorem HpIn.next {w W W1 W2:World} {gq:Nat} {ys zs us:List It} (h:HpIn w gq ys W zs W1) (hq:QIn w gq us W2) (hk:KpQ W1 W2) (hs:SubI us zs):HpIn w gq ys W us W2:=⟨hq,h.2.1.trans hk,hs.trans h.2.2⟩
theorem HpIn.below {w W W1 W2:World} {gq:Nat} {ys zs:List It} (h:HpIn w gq ys W zs W1) (hb:Below W1.heap.size W1 W2):HpIn w gq ys W zs W2:=h.next (h.1.ext hb) (KpQ.of_below hb) (SubI.refl _)
def huRel (w:World) (gq:Nat) (ys:List It) (W:World) (jv:Value) (wr:World):Prop:=∃ (j:Nat) (zs:List It),jv=.int .i64 (j:Int)∧j<ys.length∧HpIn w gq ys W zs wr
theorem zVf {w W:World} {gq:Nat} {ys:List It} (h:QIn w gq ys W) (hs:SlI ys) (j:Nat) (hj:j<ys.length) (hl:ys.length≤1000000) :
  Calls Tryz.prog 74 #[.iface 95 (.pointer (some ⟨gq,0,none⟩)),.int .i64 (j:Int)] W fun e w'=>e=.returned (.tuple #[])∧∃ zs,HpIn w gq ys W zs w':=by
 have HQ:Hid (∀ zs w',HpIn w gq ys W zs w'→(fun (e:Ending) (w':World)=>e=.returned (.tuple #[])∧∃ zs,HpIn w gq ys W zs w') (.returned (.tuple #[])) w'):=Hd fun zs w' h=>⟨rfl,zs,h⟩
 generalize (fun (e:Ending) (w':World)=>e=.returned (.tuple #[])∧∃ zs,HpIn w gq ys W zs w')=Q at *
 have H0:Hid (HpIn w gq ys W ys W):=Hd ⟨h,KpQ.of_below (Below.refl _ _),SubI.refl _⟩
 clear h
 have eL:=zSj
 have eS:=zMr
 go_enter Tryz.func74,Tryz.ntmps74
 go_wp2_with fail
 go_loopw [1] (fun jv wr=>huRel w gq ys W jv wr) (fun jv _=>(intOf jv).toNat)
 case atStart=>exact ⟨j,ys,rfl,hj,H0.out⟩
 case round =>
  clear H0 hj j
  obtain ⟨j,zs,rfl,hj,hz⟩:=hrel
  have HZ:=Hd hz
  have hzl:=hz.2.2.1
  have hsz:=hz.2.2.sl hs
  clear hz
  have hj0:(0:Int)≤j:=by omega
  have hjm:(j:Int)≤1000000:=by omega
  by_cases hz0:j=0
  ·subst hz0
   go_wp2_with fail
   go_end0
   exact HQ.out _ _ HZ.out
  obtain ⟨i,hi⟩:∃ i,i=(j-1) / 2:=⟨_,rfl⟩
  have hi1:i<zs.length:=by omega
  have hj1:j<zs.length:=by omega
  have hij:i<j:=by omega
  obtain ⟨vL,mL,CL⟩:=HZ.out.1.less hsz (by omega)
  have hji:((i:Int) == (j:Int))=false:=by rw [beq_eq_false_iff_ne];omega
  have hdv:((j:Int)-1) / 2=(i:Int):=by omega
  clear hi
  go_wp2_with (first
   | (go_at_fn 202;refine (CL j i hj1 hi1).mono ?_;rintro e w1 ⟨⟨z,rfl⟩,hb1⟩;have HZ1:=Hd (HZ.out.below hb1);obtain ⟨vS,mS,CS⟩:=HZ1.out.1.swap hsz (by omega);clear hb1 CL mL)
   | (go_at_fn 205;refine (CS i j hi1 hj1).mono ?_;rintro e w2 ⟨rfl,hq,hk⟩;have HZ2:=Hd (HZ1.out.next hq hk (SubI.swap zs i j hi1 hj1));clear hq hk CS mS))
  ·go_end0
   exact HQ.out _ _ HZ1.out
  ·exact ⟨⟨i,_,rfl,by omega,HZ2.out⟩,by simp only [intOf];omega⟩
def hdRel (w:World) (gq:Nat) (ys:List It) (W:World) (iv:Value) (wr:World):Prop:=∃ (i:Nat) (zs:List It),iv=.int .i64 (i:Int)∧i≤3000000∧HpIn w gq ys W zs wr
theorem zPj {w W:World} {gq:Nat} {ys:List It} (h:QIn w gq ys W) (hs:SlI ys) (n:Nat) (hn:n≤ys.length) (hl:ys.length≤1000000) :
  Calls Tryz.prog 99 #[.iface 95 (.pointer (some ⟨gq,0,none⟩)),.int .i64 0,.int .i64 (n:Int)] W fun e w'=>(∃ z,e=.returned (.bool z))∧∃ zs,HpIn w gq ys W zs w':=by
 have HQ:Hid (∀ z zs w',HpIn w gq ys W zs w'→(fun (e:Ending) (w':World)=>(∃ z,e=.returned (.bool z))∧∃ zs,HpIn w gq ys W zs w') (.returned (.bool z)) w'):=Hd fun z zs w' h=>⟨⟨z,rfl⟩,zs,h⟩
 generalize (fun (e:Ending) (w':World)=>(∃ z,e=.returned (.bool z))∧∃ zs,HpIn w gq ys W zs w')=Q at *
 have H0:Hid (HpIn w gq ys W ys W):=Hd ⟨h,KpQ.of_below (Below.refl _ _),SubI.refl _⟩
 clear h
 have eL:=zSj
 have eS:=zMr
 have hnl:(n:Int)≤1000000:=by omega
 go_enter Tryz.func99,Tryz.ntmps99
 go_wp2_with fail
 go_loopw [7] (fun iv wr=>hdRel w gq ys W iv wr) (fun iv _=>n-(intOf iv).toNat)
 case atStart=>exact ⟨0,ys,rfl,by omega,H0.out⟩
 case round =>
  clear H0
  obtain ⟨i,zs,rfl,hi,hz⟩:=hrel
  have HZ:=Hd hz
  have hzl:=hz.2.2.1
  have hsz:=hz.2.2.sl hs
  clear hz
  have hi0:(0:Int)≤i:=by omega
  have him:(i:Int)≤3000000:=by omega
  by_cases hn1:n≤2*i+1
  ·have hge:(n:Int)≤2*(i:Int)+1:=by omega
   have HX:=Hd (fun z=>HQ.out z _ _ HZ.out)
   go_wp2_with fail
   exact HX.out _
  obtain ⟨j1,hj1⟩:∃ j1,j1=2*i+1:=⟨_,rfl⟩
  have hjv:2*(i:Int)+1=(j1:Int):=by omega
  have hj0:(0:Int)≤j1:=by omega
  have hjm:(j1:Int)≤1000000:=by omega
  have hge:¬ (n:Int)≤j1:=by omega
  have hlt0:¬ (j1:Int)<0:=by omega
  have hil:i<zs.length:=by omega
  have hjl:j1<zs.length:=by omega
  have hij:i<j1:=by omega
  have hjn:j1<n:=by omega
  clear hj1 hn1
  obtain ⟨vL,mL,CL⟩:=HZ.out.1.less hsz (by omega)
  by_cases h2:j1+1<n
  ·have h2i:(j1:Int)+1<n:=by omega
   have hkl:j1+1<zs.length:=by omega
   go_wp2_with (first
    | (go_at_fn 202;refine (CL (j1+1) j1 hkl hjl).mono ?_;rintro e w1 ⟨⟨z,rfl⟩,hb1⟩;have HZ1:=Hd (HZ.out.below hb1);obtain ⟨vM,mM,CM⟩:=HZ1.out.1.less hsz (by omega);clear hb1 CL mL)
    | (go_at_fn 202;refine (CM j1 i hjl hil).mono ?_;rintro e w3 ⟨⟨z3,rfl⟩,hb3⟩;have HZ3:=Hd (HZ1.out.below hb3);obtain ⟨vS,mS,CS⟩:=HZ3.out.1.swap hsz (by omega);clear hb3 CM mM)
    | (go_at_fn 202;refine (CM (j1+1) i hkl hil).mono ?_;rintro e w3 ⟨⟨z3,rfl⟩,hb3⟩;have HZ3:=Hd (HZ1.out.below hb3);obtain ⟨vS,mS,CS⟩:=HZ3.out.1.swap hsz (by omega);clear hb3 CM mM)
    | (go_at_fn 205;refine (CS i j1 hil hjl).mono ?_;rintro e w4 ⟨rfl,hq,hk⟩;have HZ4:=Hd (HZ3.out.next hq hk (SubI.swap zs i j1 hil hjl));clear hq hk CS mS)
    | (go_at_fn 205;refine (CS i (j1+1) hil hkl).mono ?_;rintro e w4 ⟨rfl,hq,hk⟩;have HZ4:=Hd (HZ3.out.next hq hk (SubI.swap zs i (j1+1) hil hkl));clear hq hk CS mS))
   all_goals first | exact HQ.out _ _ _ HZ3.out | exact ⟨⟨j1,_,rfl,by omega,HZ4.out⟩,by simp only [intOf];omega⟩ | exact ⟨⟨j1+1,_,by push_cast;rfl,by omega,HZ4.out⟩,by simp only [intOf];omega⟩
  ·have h2i:¬ (j1:Int)+1<n:=by omega
   go_wp2_with (first
    | (go_at_fn 202;refine (CL j1 i hjl hil).mono ?_;rintro e w3 ⟨⟨z3,rfl⟩,hb3⟩;have HZ3:=Hd (HZ.out.below hb3);obtain ⟨vS,mS,CS⟩:=HZ3.out.1.swap hsz (by omega);clear hb3 CL mL)
    | (go_at_fn 205;refine (CS i j1 hil hjl).mono ?_;rintro e w4 ⟨rfl,hq,hk⟩;have HZ4:=Hd (HZ3.out.next hq hk (SubI.swap zs i j1 hil hjl));clear hq hk CS mS))
   all_goals first | exact HQ.out _ _ _ HZ3.out | exact ⟨⟨j1,_,rfl,by omega,HZ4.out⟩,by simp only [intOf];omega⟩ | exact ⟨⟨j1+1,_,by push_cast;rfl,by omega,HZ4.out⟩,by simp only [intOf];omega⟩
end Go.Proofs.YtfalelkfhandfaaGreatDoor
namespace Go.Proofs.YtfalelkfhandfaaGreatDoor
set_option maxRecDepth 100000
set_option maxHeartbeats 32000000
set_option linter.all false
attribute [local irreducible] Calls
open Go Go.RowKit

theorem SlI.snoc {ys:List It} (h:SlI ys) {y:It} {s:Option Addr} {m t:Nat} (hy:y.1.2=.slice s m t):SlI (ys++[y]):=by
 intro z hz
 rcases List.mem_append.1 hz with hz | hz
 ·exact h z hz
 ·obtain rfl:=List.mem_singleton.1 hz
  exact ⟨s,m,t,hy⟩
theorem zPk {w W:World} {gq:Nat} {ys:List It} (h:QIn w gq ys W) (hs:SlI ys) (hl:ys.length≤900000) (y:It) {s:Option Addr} {m t:Nat} (hy:y.1.2=.slice s m t) :
  Calls Tryz.prog 55 #[.iface 95 (.pointer (some ⟨gq,0,none⟩)),.iface 100 (itA y s m t)] W fun e w'=>e=.returned (.tuple #[])∧∃ zs,QIn w gq zs w'∧KpQ W w'∧SubI zs (ys++[y]):=by
 have HQ:Hid (∀ zs w',QIn w gq zs w'→KpQ W w'→SubI zs (ys++[y])→(fun (e:Ending) (w':World)=>e=.returned (.tuple #[])∧∃ zs,QIn w gq zs w'∧KpQ W w'∧SubI zs (ys++[y])) (.returned (.tuple #[])) w'):=Hd fun zs w' h1 h2 h3=>⟨rfl,zs,h1,h2,h3⟩
 generalize (fun (e:Ending) (w':World)=>e=.returned (.tuple #[])∧∃ zs,QIn w gq zs w'∧KpQ W w'∧SubI zs (ys++[y]))=Q at *
 have eP:=zWp
 have eN:=zWe
 have mP:=zWo W gq
 have CP:=Hd (zVe h (by omega) y hy)
 have HS:=Hd (hs.snoc hy)
 have hlen:(ys++[y]).length=ys.length+1:=by simp
 generalize itA y s m t=yv at *
 generalize ys++[y]=us at *
 obtain ⟨n,hn⟩:∃ n,us.length=n:=⟨_,rfl⟩
 have HN:=Hd hn
 have HL:=Hd (show ys.length<us.length∧us.length≤1000000 by omega)
 have hn1:(n:Int)-1=(ys.length:Int):=by omega
 have hn2:(n:Int)≤1000000:=by omega
 have hn3:(0:Int)≤n:=by omega
 clear h hs hy hn hlen hl
 go_enter Tryz.func55,Tryz.ntmps55
 go_wp2_with (first
  | (go_at_fn 204;refine CP.out.mono ?_;rintro e w1 ⟨rfl,hq,hk⟩;have H1:=Hd hq;have K1:=Hd hk;obtain ⟨vN,mN,CN⟩:=hq.len;rw [HN.out] at CN;have CU:=Hd (zVf hq HS.out ys.length HL.out.1 HL.out.2);clear hq hk CP mP)
  | (go_at_fn 75;refine CN.mono ?_;rintro e w2 ⟨rfl,rfl⟩;clear CN mN)
  | (go_at_call 74;refine CU.out.mono ?_;rintro e w3 ⟨rfl,zs,hz⟩;have HX:=Hd (HQ.out zs w3 hz.1 (K1.out.trans hz.2.1) hz.2.2);clear hz CU))
 go_end0
 exact HX.out
theorem zSk {w W:World} {gq n:Nat} {ys:List It} (h:QIn w gq ys W) (hs:SlI ys) (hn:ys.length=n+1) (hl:ys.length≤1000000) :
  Calls Tryz.prog 76 #[.iface 95 (.pointer (some ⟨gq,0,none⟩))] W fun e w'=>∃ y s m t zs,e=.returned (.iface 100 (itA y s m t))∧y∈ys∧y.1.2=.slice s m t∧QIn w gq zs w'∧KpQ W w'∧zs.length=n∧∀ z∈zs,z∈ys:=by
 have HQ:Hid (∀ y s m t zs w',y∈ys→y.1.2=.slice s m t→QIn w gq zs w'→KpQ W w'→zs.length=n→(∀ z∈zs,z∈ys)→(fun (e:Ending) (w':World)=>∃ y s m t zs,e=.returned (.iface 100 (itA y s m t))∧y∈ys∧y.1.2=.slice s m t∧QIn w gq zs w'∧KpQ W w'∧zs.length=n∧∀ z∈zs,z∈ys) (.returned (.iface 100 (itA y s m t))) w'):=Hd fun y s m t zs w' h1 h2 h3 h4 h5 h6=>⟨y,s,m,t,zs,rfl,h1,h2,h3,h4,h5,h6⟩
 generalize (fun (e:Ending) (w':World)=>∃ y s m t zs,e=.returned (.iface 100 (itA y s m t))∧y∈ys∧y.1.2=.slice s m t∧QIn w gq zs w'∧KpQ W w'∧zs.length=n∧∀ z∈zs,z∈ys)=Q at *
 have eN:=zWe
 have eS:=zMr
 have eP:=zXf
 obtain ⟨vN,mN,CN⟩:=h.len
 obtain ⟨vS,mS,CS⟩:=h.swap hs (by omega)
 rw [hn] at CN
 have hp1:0<ys.length:=by omega
 have hp2:n<ys.length:=by omega
 have CSx:=Hd (CS 0 n hp1 hp2)
 have hw:IntKind.i64.wrap (((n+1:Nat):Int)-1)=(n:Int):=wI (by omega)
 have hw2:IntKind.i64.wrap ((n:Int)+1-1)=(n:Int):=wI (by omega)
 have hw3:(n:Int)+1-1=(n:Int):=by omega
 have H0:Hid (QIn w gq ys W∧SlI ys∧ys.length=n+1∧ys.length≤1000000):=Hd ⟨h,hs,hn,hl⟩
 have hnm:(n:Int)≤1000000:=by omega
 have hn0:(0:Int)≤n:=by omega
 clear h hs hn hl CS
 go_enter Tryz.func76,Tryz.ntmps76
 have hsub:=SubI.swap ys 0 n hp1 hp2
 have HSB:=Hd hsub
 have HSL:=Hd (show SlI (swapI ys 0 n hp1 hp2) from hsub.sl H0.out.2.1)
 have HLL:=Hd (show (swapI ys 0 n hp1 hp2).length=n+1∧n≤(swapI ys 0 n hp1 hp2).length∧(swapI ys 0 n hp1 hp2).length≤1000000 from by have:=hsub.1;have:=H0.out.2.2;omega)
 clear hsub
 generalize swapI ys 0 n hp1 hp2=us at *
 go_wp2_with (first
  | (go_at_fn 75;refine CN.mono ?_;rintro e w2 ⟨rfl,rfl⟩;clear CN mN)
  | (go_at_fn 205;refine CSx.out.mono ?_;rintro e w3 ⟨rfl,hq,hk⟩;have H3:=Hd hq;have K3:=Hd hk;have CD:=Hd (zPj hq HSL.out n HLL.out.2.1 HLL.out.2.2);clear hq hk CSx mS)
  | (go_at_call 99;refine CD.out.mono ?_;rintro e w4 ⟨⟨z,rfl⟩,zs,hz⟩;have HZ:=Hd hz;have CP:=Hd (zWq hz.1 (show zs.length=n+1 by have:=hz.2.2.1;have:=HLL.out;omega) (by omega) (hz.2.2.sl HSL.out));have mP:=zXe w4 gq;clear hz CD)
  | (go_at_fn 203;refine CP.out.mono ?_;rintro e w5 ⟨y,s,m,t,rfl,hy,hsl,hq,hk⟩;have HX:=Hd (HQ.out y s m t (zs.take n) w5 (HSB.out.2 y (HZ.out.2.2.2 y hy)) hsl hq ((K3.out.trans HZ.out.2.1).trans hk) (by rw [List.length_take];have:=HZ.out.2.2.1;have:=HLL.out;omega) (fun z hz=>HSB.out.2 z (HZ.out.2.2.2 z (List.mem_of_mem_take hz))));clear hy hsl hq hk CP mP;unfold itA at HX ⊢))
 exact HX.out
end Go.Proofs.YtfalelkfhandfaaGreatDoor
