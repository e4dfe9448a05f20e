/- 'append' as a run equation that a walk takes by itself. -/
import Derived.Test.YtfalelkfhandfaaGreatDoorCoreMq
import Derived.Maps.AppendAt
import Derived.Test.YtfalelkfhandfaaGreatDoorStillMq
import Derived.Deep.RegionHeld3
namespace Go.Proofs.YtfalelkfhandfaaGreatDoor
set_option linter.all false
open Go Go.RowKit

section
variable {P:Program}
theorem vH (w:World) (t ty e:TypeId) (ht:P.underlying t=some (.slice e)) (base:Nat) {z:Value} {size bytes:Nat} (hinfo:(P.info? e).map (fun i=>(i.zero,i.size,i.bytes))=some (some z,size,bytes)) (hzs:z.cells.size=size) (hsz:0<size)
  (v:Value) (n:Nat) (xs:List Value) (hown:w.ownsRow base e size v n xs) (src:Value) (m:Nat) (news:List Value) (hrow:Row w src m size news) (h1:∀ u∈news,u.oneCell'=true)
  (h63:n+m≤70368744177664) (hbytes:(n+m)*bytes≤140737488355328) (hbase:base≤w.heap.size) :
  ∃ v' w',(Builtin.append_ #[t,t] ty #[v,src]).run P w=.ok v' w'∧w'.ownsRow base e size v' (n+m) (xs++news)∧w.grownBy w' v.ownBlock∧(v'.ownBlock=v.ownBlock∨v'.ownBlock=some w.heap.size):=by
 obtain ⟨i,hi,hz0,hz1,hz2⟩:=info_parts hinfo
 obtain ⟨hl,ad,cap,rfl,hc,hnone,hsome⟩:=hrow
 cases ad with
 | none =>
  have hc0:=hnone rfl
  subst hc0
  obtain rfl:m=0:=by omega
  obtain rfl:news=[]:=List.eq_nil_of_length_eq_zero (by simpa using hl)
  exact ⟨v,w,run_append_owned_none (P:=P) (w:=w) base t ty e i size ht hi v n xs hown,by simpa using hown,World.grownBy.refl _ _,Or.inl rfl⟩
 | some ad =>
  obtain ⟨v',w',g1,g2,g3,_,g5⟩:=run_append_own_at (P:=P) w base t ty e i z size bytes ht hi hz0 hz1 hz2 hzs hsz v n xs hown ad m cap news hl (by
   intro j u hj
   have hjl:j<news.length:=(List.getElem?_eq_some_iff.1 hj).1
   have hm:0<m:=by
    rcases Nat.eq_zero_or_pos m with e | e
    ·subst e;simp at hl;rw [hl] at hjl;simp at hjl
    ·exact e
   obtain ⟨b,off,he,hbl,hcell⟩:=hsome hm
   cases he
   have e1:(⟨b,off,none⟩:Addr).add j=⟨b,off+j,none⟩:=by simp [Addr.add]
   rw [e1,hcell j (by omega)]
   exact hj) h1 (by unfold maxLen;omega) hbytes hbase
  exact ⟨v',w',g1,g2,g3,g5⟩
theorem yH (w0:World) (C:Array Value) (e' t ty e:TypeId) (ht:P.underlying t=some (.slice e)) (base:Nat) {z:Value} {size bytes:Nat} (hinfo:(P.info? e).map (fun i=>(i.zero,i.size,i.bytes))=some (some z,size,bytes)) (hzs:z.cells.size=size) (hsz:0<size)
  (v:Value) (n:Nat) (xs:List Value) (hown:w0.ownsRow base e size v n xs) (m c:Nat) (hl:C.size=m*size) (hmc:m≤c) (h1:∀ u∈C.toList,u.oneCell'=true)
  (h63:n+m≤70368744177664) (hbytes:(n+m)*bytes≤140737488355328) (hbase:base≤w0.heap.size) :
  ∃ v' w',(Builtin.append_ #[t,t] ty #[v,.slice (some ⟨w0.heap.size,0,none⟩) m c]).run P (w0.alloc (.cells C e'))=.ok v' w'∧w'.ownsRow base e size v' (n+m) (xs++C.toList)∧(w0.alloc (.cells C e')).grownBy w' v.ownBlock∧(v'.ownBlock=v.ownBlock∨v'.ownBlock=some (w0.heap.size+1)):=by
 obtain ⟨v',w',g1,g2,g3,g4⟩:=vH (P:=P) (w0.alloc (.cells C e')) t ty e ht base hinfo hzs hsz v n xs (hown.alloc _) (.slice (some ⟨w0.heap.size,0,none⟩) m c) m C.toList
  ⟨by simpa using hl,some ⟨w0.heap.size,0,none⟩,c,rfl,hmc,by simp,fun _=>⟨w0.heap.size,0,rfl,by simp,fun i _=>by rw [Nat.zero_add,World.cell?_alloc_at _ _ _ _ rfl];simp⟩⟩ h1 h63 hbytes (by simp;omega)
 exact ⟨v',w',g1,g2,g3,by simpa using g4⟩
theorem yA {w w':World} {ops:Array Oper} {rest:List Oper} {o:Oper} {a:Act} {Q:Exit→Act→World→Prop} (hgd:o.guard=none) (s x:Operand) (t u:TypeId) {v src v':Value} {ty:TypeId}
  (hrun:(Builtin.append_ #[t,u] ty #[v,src]).run P w=.ok v' w') (ho:o.op=.call { callee:=.builtin .append,args:=#[s,x],argTypes:=#[t,u] }) (hty:o.type=ty)
  (hs:a.eval s=v) (hx:a.eval x=src) (h:wpList P ops Q rest (a.put o.dst v') w'):wpList P ops Q (o::rest) a w:=by
 subst hty
 refine wpList_plain hgd fun K hK=>?_
 unfold Oper.wp
 simp [execOp,ho,resolve,invoke,builtin,hs,hx,hrun,Result.andThen]
 exact hK _ _ h
end
theorem xT {w0 w w':World} {B:Nat} {v:Value} {e:TypeId} {size n:Nat} {xs:List Value} (hb:Below B w0 w) (hB:B≤w.heap.size) (hown:w.ownsRow B e size v n xs) (hg:w.grownBy w' v.ownBlock):Below B w0 w' :=
 hb.grown hg hB (fun k hk=>(hown.lt k hk).1)
theorem zDl (w:World) (B:Nat) (e:TypeId) (size:Nat) (hB:B≤w.heap.size):(w.alloc (.cells #[] e)).ownsRow B e size (.slice (some ⟨w.heap.size,0,none⟩) 0 0) 0 [] :=
 ⟨by simp,Or.inr ⟨w.heap.size,0,#[],rfl,hB,heap_alloc_new _ _,Nat.le_refl _,by unfold maxLen;omega,by simp,by simp⟩⟩
theorem xH {w:World} {B g:Nat} {e:TypeId} {size n cap:Nat} {xs:List Value} (h:w.ownsRow B e size (.slice (some ⟨g,0,none⟩) n cap) n xs) (j:Nat) (hj:j<xs.length) (u:Value):(w.setCell ⟨g,j,none⟩ u).ownsRow B e size (.slice (some ⟨g,0,none⟩) n cap) n (xs.set j u):=by
 obtain ⟨h1,h2⟩:=h
 refine ⟨by rw [List.length_set];exact h1,Or.inr ?_⟩
 rcases h2 with ⟨hv,_⟩ | ⟨g',cap',cur,hv,hg,hh,hnc,hcm,hcs,htk⟩
 ·cases hv
 ·simp only [Value.slice.injEq,Option.some.injEq,Addr.mk.injEq,and_true,true_and] at hv
  obtain ⟨rfl,rfl⟩:=hv
  refine ⟨g,cap,cur.setIfInBounds j u,rfl,hg,heap_setCell_same _ _ _ _ _ _ hh,hnc,hcm,by rw [Array.size_setIfInBounds];exact hcs,?_⟩
  rw [Array.toList_setIfInBounds,List.take_set,htk]
end Go.Proofs.YtfalelkfhandfaaGreatDoor
namespace Go.Proofs.YtfalelkfhandfaaGreatDoor
set_option maxRecDepth 100000
set_option maxHeartbeats 32000000
set_option linter.all false
attribute [local irreducible] Calls
attribute [local irreducible] wpStill
open Go.RowKit

theorem zSh (a:Option Addr) (n c:Nat) (w:World):Calls Tryz.prog 75 #[.slice a n c] w fun e w'=>e=.returned (.int .i64 (n:Int))∧w'=w:=by
 go_enter Tryz.func75,Tryz.ntmps75
 go_wp2_with fail
 go_ret
 exact ⟨rfl,rfl⟩
def putI (w:World) (g k:Nat) (r p:Int) (v:Value) (n:Int):World:=(((w.setCell ⟨g,k*4,none⟩ (.int .i64 r)).setCell ⟨g,k*4+1,none⟩ (.int .i64 p)).setCell ⟨g,k*4+2,none⟩ v).setCell ⟨g,k*4+3,none⟩ (.int .i64 n)
theorem zVb (g n c a b:Nat) (w:World) (ha:a<n) (hb:b<n) (hc:n≤c) (hg:g<w.heap.size) (p1 r1 k1 p2 r2 k2:Int) (s1 s2:Option Addr) (m1 t1 m2 t2:Nat)
  (a0:w.cell? ⟨g,a*4,none⟩=some (.int .i64 r1)) (a1:w.cell? ⟨g,a*4+1,none⟩=some (.int .i64 p1)) (a2:w.cell? ⟨g,a*4+2,none⟩=some (.slice s1 m1 t1)) (a3:w.cell? ⟨g,a*4+3,none⟩=some (.int .i64 k1))
  (c0:w.cell? ⟨g,b*4,none⟩=some (.int .i64 r2)) (c1:w.cell? ⟨g,b*4+1,none⟩=some (.int .i64 p2)) (c2:w.cell? ⟨g,b*4+2,none⟩=some (.slice s2 m2 t2)) (c3:w.cell? ⟨g,b*4+3,none⟩=some (.int .i64 k2)) :
  Calls Tryz.prog 202 #[.slice (some ⟨g,0,none⟩) n c,.int .i64 (a:Int),.int .i64 (b:Int)] w fun e w'=>(∃ z,e=.returned (.bool z))∧Below w.heap.size w w':=by
 have ha1:(a:Int)<n:=by omega
 have hb1:(b:Int)<n:=by omega
 have ha0:(0:Int)≤a:=by omega
 have hb0:(0:Int)≤b:=by omega
 have hac:(a:Int)<c:=by omega
 have hbc:(b:Int)<c:=by omega
 go_enter Tryz.func202,Tryz.ntmps202
 go_wp2_with fail
 go_region
 all_goals go_wp2_with fail
 all_goals (go_ret;exact ⟨⟨_,rfl⟩,(((Below.refl _ _).alloc (Nat.le_refl _) _).alloc (by simp) _).drew⟩)
theorem zVc (g n c a b:Nat) (w:World) (ha:a<n) (hb:b<n) (hc:n≤c) (hg:g<w.heap.size) (p1 r1 k1 p2 r2 k2:Int) (s1 s2:Option Addr) (m1 t1 m2 t2:Nat) (hf:∀ j,w.frozen? ⟨g,j,none⟩=false)
  (a0:w.cell? ⟨g,a*4,none⟩=some (.int .i64 r1)) (a1:w.cell? ⟨g,a*4+1,none⟩=some (.int .i64 p1)) (a2:w.cell? ⟨g,a*4+2,none⟩=some (.slice s1 m1 t1)) (a3:w.cell? ⟨g,a*4+3,none⟩=some (.int .i64 k1))
  (c0:w.cell? ⟨g,b*4,none⟩=some (.int .i64 r2)) (c1:w.cell? ⟨g,b*4+1,none⟩=some (.int .i64 p2)) (c2:w.cell? ⟨g,b*4+2,none⟩=some (.slice s2 m2 t2)) (c3:w.cell? ⟨g,b*4+3,none⟩=some (.int .i64 k2)) :
  Calls Tryz.prog 205 #[.slice (some ⟨g,0,none⟩) n c,.int .i64 (a:Int),.int .i64 (b:Int)] w fun e w'=>e=.returned (.tuple #[])∧w'=(putI (putI w g a r2 p2 (.slice s2 m2 t2) k2) g b r1 p1 (.slice s1 m1 t1) k1).drew:=by
 have ha1:(a:Int)<n:=by omega
 have hb1:(b:Int)<n:=by omega
 have ha0:(0:Int)≤a:=by omega
 have hb0:(0:Int)≤b:=by omega
 have hac:(a:Int)<c:=by omega
 have hbc:(b:Int)<c:=by omega
 by_cases hab:a=b
 ·subst hab
  rw [a0] at c0
  rw [a1] at c1
  rw [a2] at c2
  rw [a3] at c3
  cases c0
  cases c1
  cases c2
  cases c3
  go_enter Tryz.func205,Tryz.ntmps205
  go_wp2_with fail
  go_region
  go_wp2_with fail
  go_end0
  exact ⟨rfl,rfl⟩
 go_enter Tryz.func205,Tryz.ntmps205
 go_wp2_with fail
 go_region
 go_wp2_with fail
 go_end0
 exact ⟨rfl,rfl⟩
end Go.Proofs.YtfalelkfhandfaaGreatDoor
