/- Short forms for walks of drawn regions. -/
import Derived.Test.YtmklemelgdilkaaGreatDoorCoreMk
import Derived.Deep.RegionHeld3
import Derived.Maps.AppendAt
import Derived.Test.YtmklemelgdilkaaGreatDoorInstPMk
import Derived.Test.YtmklemelgdilkaaGreatDoorCheckBMk
namespace Go.Proofs.YtmklemelgdilkaaGreatDoor
set_option linter.all false
open Go

theorem aP:(∀ (a:Act) (d:Nat) (v:Value),a.put (some d) v={ a with tmps:=a.tmps.setIfInBounds d v })∧(∀ (a:Act) (v:Value),a.put none v=a)∧(∀ (l:List Value) (i:Nat) (v:Value),l.toArray.setIfInBounds i v=(l.set i v).toArray)∧(∀ (x:Value) (l:List Value) (v:Value),(x::l).set 0 v=v::l)∧∀ (x:Value) (l:List Value) (i:Nat) (v:Value),(x::l).set (i+1) v=x::l.set i v :=
 ⟨fun _ _ _=>rfl,fun _ _=>rfl,fun _ _ _=>List.setIfInBounds_toArray ..,fun _ _ _=>rfl,fun _ _ _ _=>rfl⟩
section
variable {P:Program} {ops:Array Oper} {Q:Exit→Act→World→Prop} {md:Region.Mode} {S:World→Prop}
theorem tkH (i d:Nat) (v:Value) {op:Op} {ty:TypeId} {pos:String} {after:Array Edge} {guard:Option (Tmp×Bool)} {fuel:Nat} {L:Array Bool} {a:Act} {w:World} (hi:ops[i]?=some ⟨some d,op,ty,pos,after,guard⟩) (hk:(Region.noSelect ops&&(Region.free md ops L i&&(Region.ready md ops L).contains i))=true)
  (hQ:∀ c a w,Q (.panic c) (a.put (some d) v) w→Q (.panic c) a w) (hy:YieldsIf P ops S ⟨some d,op,ty,pos,after,guard⟩ v a) (hS:S w) (h:wpAnyH P md ops Q S fuel (L.setIfInBounds i true) (a.put (some d) v) w):wpAnyH P md ops Q S (fuel+1) L a w :=
 have h1:=Bool.and_eq_true_iff.1 hk
 have h2:=Bool.and_eq_true_iff.1 h1.2
 wpAnyH_take hi h1.1 h2.1 h2.2 hQ hy hS h
end
end Go.Proofs.YtmklemelgdilkaaGreatDoor
namespace Go.Proofs.YtmklemelgdilkaaGreatDoor
set_option linter.all false
open Go Go.RowKit

section
variable {P:Program}
theorem append_eq (w:World) (t ty e:TypeId) (ht:P.underlying t=some (.slice e)) (base:Nat) {z:Value} {size bytes:Nat} (hinfo:(P.info? e).map (fun i=>(i.zero,i.size,i.bytes))=some (some z,size,bytes)) (hzs:z.cells.size=size) (hsz:0<size)
  (v:Value) (n:Nat) (xs:List Value) (hown:w.ownsRow base e size v n xs) (src:Value) (m:Nat) (news:List Value) (hrow:Row w src m size news) (h1:∀ u∈news,u.oneCell'=true)
  (h63:n+m≤70368744177664) (hbytes:(n+m)*bytes≤140737488355328) (hbase:base≤w.heap.size) :
  ∃ v' w',(Builtin.append_ #[t,t] ty #[v,src]).run P w=.ok v' w'∧w'.ownsRow base e size v' (n+m) (xs++news)∧w.grownBy w' v.ownBlock∧(v'.ownBlock=v.ownBlock∨v'.ownBlock=some w.heap.size):=by
 obtain ⟨i,hi,hz0,hz1,hz2⟩:=info_parts hinfo
 obtain ⟨hl,ad,cap,rfl,hc,hnone,hsome⟩:=hrow
 cases ad with
 | none =>
  have hc0:=hnone rfl
  subst hc0
  obtain rfl:m=0:=by omega
  obtain rfl:news=[]:=List.eq_nil_of_length_eq_zero (by simpa using hl)
  exact ⟨v,w,run_append_owned_none (P:=P) (w:=w) base t ty e i size ht hi v n xs hown,by simpa using hown,World.grownBy.refl _ _,Or.inl rfl⟩
 | some ad =>
  obtain ⟨v',w',g1,g2,g3,_,g5⟩:=run_append_own_at (P:=P) w base t ty e i z size bytes ht hi hz0 hz1 hz2 hzs hsz v n xs hown ad m cap news hl (by
   intro j u hj
   have hjl:j<news.length:=(List.getElem?_eq_some_iff.1 hj).1
   have hm:0<m:=by
    rcases Nat.eq_zero_or_pos m with e | e
    ·subst e;simp at hl;rw [hl] at hjl;simp at hjl
    ·exact e
   obtain ⟨b,off,he,hbl,hcell⟩:=hsome hm
   cases he
   have e1:(⟨b,off,none⟩:Addr).add j=⟨b,off+j,none⟩:=by simp [Addr.add]
   rw [e1,hcell j (by omega)]
   exact hj) h1 (by unfold maxLen;omega) hbytes hbase
  exact ⟨v',w',g1,g2,g3,g5⟩
theorem append_lit_eq (w0:World) (C:Array Value) (e' t ty e:TypeId) (ht:P.underlying t=some (.slice e)) (base:Nat) {z:Value} {size bytes:Nat} (hinfo:(P.info? e).map (fun i=>(i.zero,i.size,i.bytes))=some (some z,size,bytes)) (hzs:z.cells.size=size) (hsz:0<size)
  (v:Value) (n:Nat) (xs:List Value) (hown:w0.ownsRow base e size v n xs) (m c:Nat) (hl:C.size=m*size) (hmc:m≤c) (h1:∀ u∈C.toList,u.oneCell'=true)
  (h63:n+m≤70368744177664) (hbytes:(n+m)*bytes≤140737488355328) (hbase:base≤w0.heap.size) :
  ∃ v' w',(Builtin.append_ #[t,t] ty #[v,.slice (some ⟨w0.heap.size,0,none⟩) m c]).run P (w0.alloc (.cells C e'))=.ok v' w'∧w'.ownsRow base e size v' (n+m) (xs++C.toList)∧(w0.alloc (.cells C e')).grownBy w' v.ownBlock∧(v'.ownBlock=v.ownBlock∨v'.ownBlock=some (w0.heap.size+1)):=by
 obtain ⟨v',w',g1,g2,g3,g4⟩:=append_eq (P:=P) (w0.alloc (.cells C e')) t ty e ht base hinfo hzs hsz v n xs (hown.alloc _) (.slice (some ⟨w0.heap.size,0,none⟩) m c) m C.toList
  ⟨by simpa using hl,some ⟨w0.heap.size,0,none⟩,c,rfl,hmc,by simp,fun _=>⟨w0.heap.size,0,rfl,by simp,fun i _=>by rw [Nat.zero_add,World.cell?_alloc_at _ _ _ _ rfl];simp⟩⟩ h1 h63 hbytes (by simp;omega)
 exact ⟨v',w',g1,g2,g3,by simpa using g4⟩
theorem wpList_append_run {w w':World} {ops:Array Oper} {rest:List Oper} {o:Oper} {a:Act} {Q:Exit→Act→World→Prop} (hgd:o.guard=none) (s x:Operand) (t u:TypeId) {v src v':Value} {ty:TypeId}
  (hrun:(Builtin.append_ #[t,u] ty #[v,src]).run P w=.ok v' w') (ho:o.op=.call { callee:=.builtin .append,args:=#[s,x],argTypes:=#[t,u] }) (hty:o.type=ty)
  (hs:a.eval s=v) (hx:a.eval x=src) (h:wpList P ops Q rest (a.put o.dst v') w'):wpList P ops Q (o::rest) a w:=by
 subst hty
 refine wpList_plain hgd fun K hK=>?_
 unfold Oper.wp
 simp [execOp,ho,resolve,invoke,builtin,hs,hx,hrun,Result.andThen]
 exact hK _ _ h
end
theorem grown_keeps {w0 w w':World} {B:Nat} {v:Value} {e:TypeId} {size n:Nat} {xs:List Value} (hb:Below B w0 w) (hB:B≤w.heap.size) (hown:w.ownsRow B e size v n xs) (hg:w.grownBy w' v.ownBlock):Below B w0 w' :=
 hb.grown hg hB (fun k hk=>(hown.lt k hk).1)
theorem owns_empty (w:World) (B:Nat) (e:TypeId) (size:Nat) (hB:B≤w.heap.size):(w.alloc (.cells #[] e)).ownsRow B e size (.slice (some ⟨w.heap.size,0,none⟩) 0 0) 0 [] :=
 ⟨by simp,Or.inr ⟨w.heap.size,0,#[],rfl,hB,heap_alloc_new _ _,Nat.le_refl _,by unfold maxLen;omega,by simp,by simp⟩⟩
theorem owns_set {w:World} {B g:Nat} {e:TypeId} {size n cap:Nat} {xs:List Value} (h:w.ownsRow B e size (.slice (some ⟨g,0,none⟩) n cap) n xs) (j:Nat) (hj:j<xs.length) (u:Value):(w.setCell ⟨g,j,none⟩ u).ownsRow B e size (.slice (some ⟨g,0,none⟩) n cap) n (xs.set j u):=by
 obtain ⟨h1,h2⟩:=h
 refine ⟨by rw [List.length_set];exact h1,Or.inr ?_⟩
 rcases h2 with ⟨hv,_⟩ | ⟨g',cap',cur,hv,hg,hh,hnc,hcm,hcs,htk⟩
 ·cases hv
 ·simp only [Value.slice.injEq,Option.some.injEq,Addr.mk.injEq,and_true,true_and] at hv
  obtain ⟨rfl,rfl⟩:=hv
  refine ⟨g,cap,cur.setIfInBounds j u,rfl,hg,heap_setCell_same _ _ _ _ _ _ hh,hnc,hcm,by rw [Array.size_setIfInBounds];exact hcs,?_⟩
  rw [Array.toList_setIfInBounds,List.take_set,htk]
end Go.Proofs.YtmklemelgdilkaaGreatDoor
namespace Go.Proofs.YtmklemelgdilkaaGreatDoor
set_option linter.all false
open Go.RowKit

def intsR (l:List Int):List Value:=l.map (Value.int .i64)
theorem intsR_snoc (l:List Int) (x:Int):intsR (l++[x])=intsR l++[.int .i64 x]:=by simp [intsR]
def litB (x:Int):Obj:=.cells #[.int .i64 x] 3 (0,0)
structure UpW (B go:Nat) (w0:World) (E os cs:List Int) (vo vl:Value) (L:List (Nat×Obj)) (W:World):Prop where
 opn:W.ownsRow B 3 1 vo os.length (intsR os)
 lft:W.ownsRow B 3 1 vl cs.length (intsR cs)
 out:W.heap[go]?=some (.cells (intsR E).toArray 3 (0,0))
 below:Below B w0 W
 base:B≤W.heap.size
 go0:B≤go
 o1:vo.ownBlock≠some go
 l1:vl.ownBlock≠some go
 ol:∀ g,vo.ownBlock=some g→vl.ownBlock≠some g
 lits:∀ p∈L,W.heap[p.1]?=some p.2∧vo.ownBlock≠some p.1∧vl.ownBlock≠some p.1∧p.1≠go
theorem UpW.build {B go:Nat} {w0 W:World} {E os cs:List Int} {vo vl:Value} {L:List (Nat×Obj)} (h:UpW B go w0 E os cs vo vl L W) (x:Obj) :
  UpW B go w0 E os cs vo vl ((W.heap.size,x)::L) (W.alloc x):=by
 have hgo:=keeps_lt h.out
 refine ⟨h.opn.alloc _,h.lft.alloc _,by rw [Below.heap_alloc _ _ _ hgo];exact h.out,h.below.alloc h.base _,by simp;have:=h.base;omega,h.go0,h.o1,h.l1,h.ol,fun p hp=>?_⟩
 rcases List.mem_cons.1 hp with rfl | hp
 ·refine ⟨heap_alloc_new _ _,fun e=>?_,fun e=>?_,by simp only;omega⟩
  ·have:=(h.opn.lt _ e).2;simp only at this;omega
  ·have:=(h.lft.lt _ e).2;simp only at this;omega
 ·obtain ⟨a,b,c,d⟩:=h.lits p hp
  exact ⟨by rw [Below.heap_alloc _ _ _ (keeps_lt a)];exact a,b,c,d⟩
theorem lit_row {W:World} {k:Nat} {x:Int} (h:W.heap[k]?=some (litB x)):Row W (.slice (some ⟨k,0,none⟩) 1 1) 1 1 [.int .i64 x] :=
 ⟨rfl,some ⟨k,0,none⟩,1,rfl,Nat.le_refl _,by simp,fun _=>⟨k,0,rfl,keeps_lt h,fun i hi=>by
  obtain rfl:i=0:=by omega
  simp [World.cell?,h,litB]⟩⟩
theorem UpW.appO {B go:Nat} {w0 W:World} {E os cs:List Int} {vo vl:Value} {L:List (Nat×Obj)} (h:UpW B go w0 E os cs vo vl L W) (k:Nat) (x:Int) (hk:(k,litB x)∈L) (hL:os.length≤1000000000) :
  ∃ v' w',(Builtin.append_ #[27,27] 27 #[vo,.slice (some ⟨k,0,none⟩) 1 1]).run Tryz.prog W=.ok v' w'∧UpW B go w0 E (os++[x]) cs v' vl L w':=by
 obtain ⟨hk1,_⟩:=h.lits _ hk
 obtain ⟨v',w',h1,h2,h3,h4⟩:=append_eq (P:=Tryz.prog) W 27 27 3 Tryz.underlying27 B Tinfo_int rfl (by decide) vo os.length _ h.opn _ 1 _ (lit_row hk1) (by intro u hu;simp at hu;subst hu;rfl) (by omega) (by omega) h.base
 have hgo:=keeps_lt h.out
 refine ⟨v',w',h1,⟨?_,h.lft.kept h3 ?_,?_,grown_keeps h.below h.base h.opn h3,Nat.le_trans h.base h3.size,h.go0,?_,h.l1,fun g e1 e2=>?_,fun p hp=>?_⟩⟩
 ·rw [intsR_snoc,List.length_append];exact h2
 ·cases hb:vl.ownBlock with
  | none=>exact Or.inl rfl
  | some g=>exact Or.inr fun e=>h.ol g e.symm hb
 ·rw [h3.block go hgo (fun e=>h.o1 e.symm)];exact h.out
 ·rcases h4 with e | e
  ·rw [e];exact h.o1
  ·rw [e];intro e;simp only [Option.some.injEq] at e;omega
 ·rcases h4 with e | e
  ·rw [e] at e1;exact h.ol g e1 e2
  ·rw [e] at e1;simp only [Option.some.injEq] at e1
   have:=(h.lft.lt g e2).2;omega
 ·obtain ⟨a,b,c,d⟩:=h.lits p hp
  have:=keeps_lt a
  refine ⟨by rw [h3.block p.1 this (fun e=>b e.symm)];exact a,?_,c,d⟩
  rcases h4 with e | e
  ·rw [e];exact b
  ·rw [e];intro e;simp only [Option.some.injEq] at e;omega
theorem UpW.flip {B go:Nat} {w0 W:World} {E os cs:List Int} {vo vl:Value} {L:List (Nat×Obj)} (h:UpW B go w0 E os cs vo vl L W):UpW B go w0 E cs os vl vo L W :=
 ⟨h.lft,h.opn,h.out,h.below,h.base,h.go0,h.l1,h.o1,fun g a b=>h.ol g b a,fun p hp=>by obtain ⟨a,b,c,d⟩:=h.lits p hp;exact ⟨a,c,b,d⟩⟩
theorem UpW.appL {B go:Nat} {w0 W:World} {E os cs:List Int} {vo vl:Value} {L:List (Nat×Obj)} (h:UpW B go w0 E os cs vo vl L W) (k:Nat) (x:Int) (hk:(k,litB x)∈L) (hL:cs.length≤1000000000) :
  ∃ v' w',(Builtin.append_ #[27,27] 27 #[vl,.slice (some ⟨k,0,none⟩) 1 1]).run Tryz.prog W=.ok v' w'∧UpW B go w0 E os (cs++[x]) vo v' L w':=by
 obtain ⟨v',w',h1,h2⟩:=h.flip.appO k x hk hL
 exact ⟨v',w',h1,h2.flip⟩
theorem UpW.drewN {B go:Nat} {w0 W:World} {E os cs:List Int} {vo vl:Value} {L:List (Nat×Obj)} (h:UpW B go w0 E os cs vo vl L W) (n:Nat):UpW B go w0 E os cs vo vl L (W.drewN n) :=
 ⟨h.opn,h.lft,h.out,drewB h.below n,h.base,h.go0,h.o1,h.l1,h.ol,h.lits⟩
theorem UpW.put {B go:Nat} {w0 W:World} {E os cs:List Int} {vo vl:Value} {L:List (Nat×Obj)} (h:UpW B go w0 E os cs vo vl L W) (i:Nat) (x:Int):UpW B go w0 (E.set i x) os cs vo vl L (W.setCell ⟨go,i,none⟩ (.int .i64 x)):=by
 refine ⟨ownsRow_setCell_other h.opn h.o1 _,ownsRow_setCell_other h.lft h.l1 _,?_,h.below.setCell (p:=⟨go,i,none⟩) h.go0 _,by simpa using h.base,h.go0,h.o1,h.l1,h.ol,fun p hp=>by
  obtain ⟨a,b,c,d⟩:=h.lits p hp
  exact ⟨by rw [heap_setCell_other _ _ _ _ (by exact d)];exact a,b,c,d⟩⟩
 rw [heap_setCell_same W go i _ _ _ h.out,List.setIfInBounds_toArray]
 unfold intsR
 rw [List.map_set]
theorem UpW.pop {B go:Nat} {w0 W:World} {E os cs:List Int} {o c:Int} {ao al:Option Addr} {no nl co cl:Nat} {L:List (Nat×Obj)} (hno:no=os.length+1) (hnl:nl=cs.length+1) (h:UpW B go w0 E (os++[o]) (cs++[c]) (.slice ao no co) (.slice al nl cl) L W) :
  UpW B go w0 E os cs (.slice ao os.length co) (.slice al cs.length cl) L W:=by
 subst hno hnl
 have h1:=h.opn
 have h2:=h.lft
 rw [List.length_append,List.length_singleton] at h1 h2
 have h1:=ownsRow_take h1 (k:=os.length) (by omega)
 have h2:=ownsRow_take h2 (k:=cs.length) (by omega)
 rw [intsR_snoc,Nat.mul_one,List.take_append_of_le_length (by simp [intsR]),List.take_of_length_le (by simp [intsR])] at h1 h2
 have ho:∀ (a:Option Addr) (n n' c:Nat),(Value.slice a n c).ownBlock=(Value.slice a n' c).ownBlock:=fun a n n' c=>by cases a <;> rfl
 refine ⟨h1,h2,h.out,h.below,h.base,h.go0,?_,?_,?_,?_⟩
 ·rw [ho ao _ (os.length+1)];exact h.o1
 ·rw [ho al _ (cs.length+1)];exact h.l1
 ·rw [ho ao _ (os.length+1),ho al _ (cs.length+1)];exact h.ol
 ·rw [ho ao _ (os.length+1),ho al _ (cs.length+1)];exact h.lits
theorem UpW.less {B go:Nat} {w0 W:World} {E os cs:List Int} {c:Int} {vo:Value} {g nl cl:Nat} {L:List (Nat×Obj)} (hnl:nl=cs.length+1) (h:UpW B go w0 E os (cs++[c]) vo (.slice (some ⟨g,0,none⟩) nl cl) L W) (x:Int) :
  UpW B go w0 E os (cs++[x]) vo (.slice (some ⟨g,0,none⟩) nl cl) L (W.setCell ⟨g,cs.length,none⟩ (.int .i64 x)):=by
 subst hnl
 have h2:=h.lft
 rw [List.length_append,List.length_singleton] at h2
 have h3:=owns_set h2 cs.length (by simp [intsR]) (.int .i64 x)
 have e1:(intsR (cs++[c])).set cs.length (.int .i64 x)=intsR (cs++[x]):=by
  rw [intsR_snoc,intsR_snoc,List.set_append_right _ _ (by simp [intsR])]
  simp [intsR]
 rw [e1] at h3
 have hg:g≠go:=fun e=>h.l1 (by rw [e];rfl)
 refine ⟨ownsRow_setCell_other h.opn (fun e=>h.ol g e rfl) _,by rw [List.length_append,List.length_singleton];exact h3,?_,h.below.setCell (p:=⟨g,cs.length,none⟩) (h2.lt g rfl).1 _,by simpa using h.base,h.go0,h.o1,h.l1,h.ol,fun p hp=>by
  obtain ⟨a,b,c,d⟩:=h.lits p hp
  exact ⟨by rw [heap_setCell_other W ⟨g,cs.length,none⟩ p.1 _ (fun e=>c (congrArg some e.symm))];exact a,b,c,d⟩⟩
 rw [heap_setCell_other _ _ _ _ (fun e=>hg e.symm)];exact h.out
theorem UpW.drew {B go:Nat} {w0 W:World} {E os cs:List Int} {vo vl:Value} {L:List (Nat×Obj)} (h:UpW B go w0 E os cs vo vl L W):UpW B go w0 E os cs vo vl L W.drew:=⟨h.opn,h.lft,h.out,h.below.drew,h.base,h.go0,h.o1,h.l1,h.ol,h.lits⟩
theorem UpW.less_known {B go:Nat} {w0 W:World} {E os cs:List Int} {vo vl:Value} {L:List (Nat×Obj)} (h:UpW B go w0 E os cs vo vl L W):UpW B go w0 E os cs vo vl [] W :=
 ⟨h.opn,h.lft,h.out,h.below,h.base,h.go0,h.o1,h.l1,h.ol,fun p hp=>by cases hp⟩
def osL (st:List (Nat×Int)):List Int:=(st.map fun x=>(x.1:Int)).reverse
def csL (st:List (Nat×Int)):List Int:=(st.map (·.2)).reverse
theorem osL_length (st:List (Nat×Int)):(osL st).length=st.length:=by simp [osL]
theorem csL_length (st:List (Nat×Int)):(csL st).length=st.length:=by simp [csL]
theorem osL_cons (o:Nat) (c:Int) (st:List (Nat×Int)):osL ((o,c)::st)=osL st++[(o:Int)]:=by simp [osL]
theorem csL_cons (o:Nat) (c:Int) (st:List (Nat×Int)):csL ((o,c)::st)=csL st++[c]:=by simp [csL]
theorem UpW.shape {B go:Nat} {w0 W:World} {E:List Int} {st:List (Nat×Int)} {vo vl:Value} {L:List (Nat×Obj)} (h:UpW B go w0 E (osL st) (csL st) vo vl L W) :
  ∃ ao co al cl,vo=.slice ao st.length co∧vl=.slice al st.length cl∧st.length≤co∧st.length≤cl:=by
 obtain ⟨_,ao,co,h1,h2,_,_⟩:=Row.of_owns h.opn
 obtain ⟨_,al,cl,h3,h4,_,_⟩:=Row.of_owns h.lft
 rw [osL_length] at h1 h2
 rw [csL_length] at h3 h4
 exact ⟨ao,co,al,cl,h1,h3,h2,h4⟩
theorem UpW.topc {B go:Nat} {w0 W:World} {E:List Int} {o:Nat} {c:Int} {r:List (Nat×Int)} {vo vl:Value} {L:List (Nat×Obj)} (h:UpW B go w0 E (osL ((o,c)::r)) (csL ((o,c)::r)) vo vl L W) :
  ∃ bo bl co cl,vo=.slice (some ⟨bo,0,none⟩) (r.length+1) co∧vl=.slice (some ⟨bl,0,none⟩) (r.length+1) cl∧r.length+1≤co∧r.length+1≤cl ∧
   W.cell? ⟨bo,r.length,none⟩=some (.int .i64 (o:Int))∧W.cell? ⟨bl,r.length,none⟩=some (.int .i64 c)∧W.frozen? ⟨bl,r.length,none⟩=false∧bl≠go:=by
 have hne:∀ g,vl.ownBlock=some g→g≠go:=fun g e e2=>h.l1 (by rw [e,e2])
 obtain ⟨ao,co,al,cl,rfl,rfl,h3,h4⟩:=h.shape
 have h1:=h.opn
 have h2:=h.lft
 rw [osL_length] at h1
 rw [csL_length] at h2
 obtain ⟨bo,rfl⟩:=ownsRow_some h1 (by simp)
 obtain ⟨bl,rfl⟩:=ownsRow_some h2 (by simp)
 refine ⟨bo,bl,co,cl,rfl,rfl,h3,h4,?_,?_,?_,hne bl rfl⟩
 ·rw [h1.cellAt _ (by simp),osL_cons,intsR_snoc,List.getElem?_append_right (by simp [intsR,osL])]
  simp [intsR,osL]
 ·rw [h2.cellAt _ (by simp),csL_cons,intsR_snoc,List.getElem?_append_right (by simp [intsR,csL])]
  simp [intsR,csL]
 ·rcases h2.2 with ⟨hv,_⟩ | ⟨g',cap',cur,hv,_,hh,_⟩
  ·cases hv
  ·simp only [Value.slice.injEq,Option.some.injEq,Addr.mk.injEq,and_true,true_and] at hv
   obtain ⟨rfl,rfl⟩:=hv
   simp [World.frozen?,hh]
theorem UpW.popc {B go:Nat} {w0 W:World} {E:List Int} {o:Nat} {c:Int} {r:List (Nat×Int)} {ao al:Option Addr} {co cl:Nat} {L:List (Nat×Obj)} (h:UpW B go w0 E (osL ((o,c)::r)) (csL ((o,c)::r)) (.slice ao (r.length+1) co) (.slice al (r.length+1) cl) L W) :
  UpW B go w0 E (osL r) (csL r) (.slice ao r.length co) (.slice al r.length cl) L W:=by
 rw [osL_cons,csL_cons] at h
 have:=UpW.pop (by rw [osL_length]) (by rw [csL_length]) h
 rw [osL_length,csL_length] at this
 exact this
theorem UpW.lessc {B go:Nat} {w0 W:World} {E:List Int} {o:Nat} {c:Int} {r:List (Nat×Int)} {vo:Value} {g cl:Nat} {L:List (Nat×Obj)} (h:UpW B go w0 E (osL ((o,c)::r)) (csL ((o,c)::r)) vo (.slice (some ⟨g,0,none⟩) (r.length+1) cl) L W) (x:Int) :
  UpW B go w0 E (osL ((o,x)::r)) (csL ((o,x)::r)) vo (.slice (some ⟨g,0,none⟩) (r.length+1) cl) L (W.setCell ⟨g,r.length,none⟩ (.int .i64 x)):=by
 rw [osL_cons,csL_cons] at h
 have:=UpW.less (by rw [csL_length]) h x
 rw [csL_length] at this
 rw [osL_cons,csL_cons]
 exact this
theorem UpW.kid1 {B go:Nat} {w0 W:World} {E os cs:List Int} {vo vl:Value} {L:List (Nat×Obj)} {gp:Nat} {a kd:Int} {s:ByteArray} (h:UpW B go w0 E os cs vo vl L W) (hm:(gp,Obj.cells #[.int .u8 a,.int .i64 kd,.string s] 45)∈L):W.cell? ⟨gp,1,none⟩=some (.int .i64 kd):=by
 have:=(h.lits _ hm).1
 simp only at this
 simp [World.cell?,this]
theorem UpW.outc {B go:Nat} {w0 W:World} {E os cs:List Int} {vo vl:Value} {L:List (Nat×Obj)} (h:UpW B go w0 E os cs vo vl L W) (i:Nat) (hi:i<E.length):W.cell? ⟨go,i,none⟩=some (.int .i64 (E[i]))∧W.frozen? ⟨go,i,none⟩=false:=by
 constructor
 ·simp [World.cell?,h.out,intsR,hi]
 ·simp [World.frozen?,h.out]
theorem oper_append_run {P:Program} {w w':World} {o:Oper} {a:Act} {K:Act→World→Prop} {Q:Exit→Act→World→Prop} (s x:Operand) (t u:TypeId) {v src v':Value} {ty:TypeId}
  (hrun:(Builtin.append_ #[t,u] ty #[v,src]).run P w=.ok v' w') (ho:o.op=.call { callee:=.builtin .append,args:=#[s,x],argTypes:=#[t,u] }) (hty:o.type=ty)
  (hs:a.eval s=v) (hx:a.eval x=src) (h:K (a.put o.dst v') w'):Oper.wp P o a w K Q:=by
 subst hty
 unfold Oper.wp
 simp [execOp,ho,resolve,invoke,builtin,hs,hx,hrun,Result.andThen]
 exact h
end Go.Proofs.YtmklemelgdilkaaGreatDoor
namespace Go.Proofs.YtmklemelgdilkaaGreatDoor
set_option linter.all false

def dupB (r:RuleM) (k:Nat) (s:ByteArray):Bool:=(r.holes.take k).any fun g=>decide (g.1=s)
def seenM (hs:List Hl) (x:ByteArray):Option Int:=if hs.any (fun g=>decide (g.1=x))=true then some 1 else none
theorem seenM_put (hs:List Hl) (h:Hl):(fun x=>if x=h.1 then some 1 else seenM hs x)=seenM (hs++[h]):=by
 funext x
 unfold seenM
 rw [List.any_append]
 by_cases e:x=h.1
 ·subst e;simp
 ·rw [if_neg e]
  have:(List.any [h] fun g=>decide (g.1=x))=false:=by simp;exact fun e2=>e e2.symm
  rw [this,Bool.or_false]
theorem take_snoc {α:Type} {l:List α} {k:Nat} (hk:k<l.length):l.take (k+1)=l.take k++[l[k]]:=by
 rw [List.take_add_one,List.getElem?_eq_getElem hk];rfl
theorem holeB_eq {r:RuleM} {k:Nat} (hk:k<r.holes.length):holeB r k=(!dupB r k (r.holes[k]).1&&(name (r.holes[k]).1&&(decide (1≤(r.holes[k]).2∧(r.holes[k]).2≤7)&&(decide (1≤placesZ r.fnd r.holes[k])&&decide (0≤placesZ r.by' r.holes[k]))))):=by
 unfold holeB dupB
 rw [List.getElem?_eq_getElem hk]
theorem ruleZ_10 {r:RuleM} (h:ruleTop r=false):ruleZ r=10:=by unfold ruleZ;rw [if_pos h]
theorem ruleZ_14 {r:RuleM} (h:ruleTop r=true) (c:16<r.holes.length∨2<sevN r.holes):ruleZ r=14:=by unfold ruleZ;rw [if_neg (by simp [h]),if_pos c]
theorem ruleZ_11 {r:RuleM} (h:ruleTop r=true) (c1:r.holes.length≤16) (c2:sevN r.holes≤2) {k:Nat} (hk:k<r.holes.length) (hb:holeB r k=false):ruleZ r=11:=by
 unfold ruleZ
 rw [if_neg (by simp [h]),if_neg (by omega),if_neg (fun hh=>by have:=hh k hk;rw [hb] at this;cases this)]
theorem ruleZ_0 {r:RuleM} (h:ruleTop r=true) (c1:r.holes.length≤16) (c2:sevN r.holes≤2) (hh:∀ i,i<r.holes.length→holeB r i=true):ruleZ r=0:=by
 unfold ruleZ
 rw [if_neg (by simp [h]),if_neg (by omega),if_pos hh]
theorem sevN_take {hs:List Hl} {k:Nat} (hk:k<hs.length):sevN (hs.take (k+1))=sevN (hs.take k)+(if isSev (hs[k]).2=true then 1 else 0):=by
 unfold sevN
 rw [take_snoc hk,List.filter_append,List.length_append]
 by_cases h:isSev (hs[k]).2=true
 ·simp [h]
 ·simp [h]
theorem sevN_all (hs:List Hl):sevN (hs.take hs.length)=sevN hs:=by rw [List.take_length]
theorem sevN_le (hs:List Hl):sevN hs≤hs.length:=List.length_filter_le _ _
end Go.Proofs.YtmklemelgdilkaaGreatDoor
namespace Go.Proofs.YtmklemelgdilkaaGreatDoor
set_option linter.all false
open Go Go.RowKit

structure KpM (B g:Nat) (W W':World):Prop where
 os:W'.os=W.os
 tape:W'.tape=W.tape
 output:W'.output=W.output
 size:W.heap.size≤W'.heap.size
 low:∀ k,k<B→k≠g→W'.heap[k]?=W.heap[k]?
theorem KpM.refl (B g:Nat) (W:World):KpM B g W W:=⟨rfl,rfl,rfl,Nat.le_refl _,fun _ _ _=>rfl⟩
theorem KpM.trans {B g:Nat} {a b c:World} (h:KpM B g a b) (k:KpM B g b c):KpM B g a c :=
 ⟨k.os.trans h.os,k.tape.trans h.tape,k.output.trans h.output,Nat.le_trans h.size k.size,fun i h1 h2=>(k.low i h1 h2).trans (h.low i h1 h2)⟩
theorem KpM.of_below {B g:Nat} {W W':World} (hB:B≤W.heap.size) (h:Below W.heap.size W W'):KpM B g W W':=⟨h.os,h.tape,h.output,h.size,fun k hk _=>h.block k (by omega)⟩
theorem KpM.drewN {B g:Nat} {a W:World} (h:KpM B g a W) (n:Nat):KpM B g a (W.drewN n):=⟨h.os,h.tape,h.output,h.size,h.low⟩
theorem KpM.drew {B g:Nat} {a W:World} (h:KpM B g a W):KpM B g a W.drew:=⟨h.os,h.tape,h.output,h.size,h.low⟩
theorem KpM.alloc {B g:Nat} {a W:World} (h:KpM B g a W) (hB:B≤W.heap.size) (o:Obj):KpM B g a (W.alloc o):=h.trans (KpM.of_below hB ((Below.refl _ _).alloc (Nat.le_refl _) o))
theorem KpM.setG {B g:Nat} {a W:World} (h:KpM B g a W) (j:Nat) (v:Value):KpM B g a (W.setCell ⟨g,j,none⟩ v) :=
 ⟨h.os,h.tape,h.output,by have:=h.size;simpa using this,fun k h1 h2=>by rw [heap_setCell_other _ _ _ _ h2];exact h.low k h1 h2⟩
theorem KpM.setO {B g:Nat} {a W:World} (h:KpM B g a W) {b:Nat} (hb:B≤b) (j:Nat) (v:Value):KpM B g a (W.setCell ⟨b,j,none⟩ v) :=
 ⟨h.os,h.tape,h.output,by have:=h.size;simpa using this,fun k h1 h2=>by rw [heap_setCell_other _ _ _ _ (show k≠b by omega)];exact h.low k h1 h2⟩
theorem KpM.grown {B g:Nat} {a W W':World} (h:KpM B g a W) {e:TypeId} {size n:Nat} {v:Value} {xs:List Value} (ho:W.ownsRow B e size v n xs) (hB:B≤W.heap.size) (hg:W.grownBy W' v.ownBlock):KpM B g a W' :=
 ⟨hg.os.trans h.os,hg.tape.trans h.tape,hg.output.trans h.output,Nat.le_trans h.size hg.size,fun k h1 h2=>(hg.block k (by omega) (fun e=>by have:=(ho.lt k e.symm).1;omega)).trans (h.low k h1 h2)⟩
theorem KpM.cell {B g:Nat} {W W':World} (h:KpM B g W W') {b o:Nat} (hb:b<B) (hg:b≠g):W'.cell? ⟨b,o,none⟩=W.cell? ⟨b,o,none⟩:=by
 simp only [World.cell?,h.low b hb hg]
theorem KpM.row {B g:Nat} {W W':World} (h:KpM B g W W') (hB:B≤W.heap.size) {v:Value} {n sz:Nat} {cs:List Value} (hr:Row W v n sz cs) (hv:∀ b,v.ownBlock=some b→b<B∧b≠g):Row W' v n sz cs:=by
 obtain ⟨h1,a,cap,e,hc,hz,h2⟩:=hr
 refine ⟨h1,a,cap,e,hc,hz,fun hn=>?_⟩
 obtain ⟨b,off,ha,hlt,hcell⟩:=h2 hn
 subst ha
 obtain ⟨k1,k2⟩:=hv b (by rw [e];rfl)
 refine ⟨b,off,rfl,by have:=h.size;omega,fun i hi=>?_⟩
 rw [← hcell i hi]
 exact h.cell k1 k2
theorem KpM.below {B g:Nat} {w W W':World} (h:KpM B g W W') (hw:Below w.heap.size w W) (hB:w.heap.size≤B) (hg:w.heap.size≤g):Below w.heap.size w W' :=
 ⟨h.os.trans hw.os,h.tape.trans hw.tape,h.output.trans hw.output,Nat.le_trans hw.size h.size,fun k hk=>(h.low k (by omega) (by omega)).trans (hw.block k hk)⟩
end Go.Proofs.YtmklemelgdilkaaGreatDoor
