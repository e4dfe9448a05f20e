/- Layer 18: find.All, walked. -/
import Derived.Test.YtlkheofphafofaaGreatDoorEachMc
import Derived.Test.YtlkheofphafofaaGreatDoorEachSMc
import Derived.Test.YtlkheofphafofaaGreatDoorSeekGMc
namespace Go.Proofs.YtlkheofphafofaaGreatDoor
set_option linter.all false
attribute [local irreducible] Calls
attribute [local irreducible] wpStill
attribute [local go_sem] Oper.semAt_some
open Go.RowKit Go.Shelf

set_option maxRecDepth 100000 in
set_option maxHeartbeats 4000000 in
theorem find_each (ar al:Option Addr) (nr cr nl cl:Nat) (w:World):Calls Tryz.prog 56 #[.slice ar nr cr,.slice al nl cl] w fun e w' =>
  e=.returned (.func (.func 84) #[] #[.pointer (some ⟨w.heap.size+1,0,none⟩),.pointer (some ⟨w.heap.size,0,none⟩)])∧w'=(w.alloc (.cells #[.slice ar nr cr] 34)).alloc (.cells #[.slice al nl cl] 23):=by
 go_enter Tryz.func56,Tryz.ntmps56
 go_wp2_with fail
 go_ret
 exact ⟨rfl,rfl⟩
theorem Minfo_match:(Tryz.prog.info? 95).map (fun i=>(i.zero,i.size,i.bytes))=some (some (.agg #[.int .i64 0,.int .i64 0,.slice none 0 0]),3,40):=by kernel_rfl
theorem fold_one (p:Nat) (v:Value) (T:Array Value):(#[p].zip #[v]).foldl (fun t (p,v)=>t.setIfInBounds p v) T=T.setIfInBounds p v:=by simp
theorem lit_cells (w:World) (e:TypeId) (news:List Value):∀ (j:Nat) (u:Value),news[j]?=some u→(w.alloc (.cells news.toArray e)).cell? ((⟨w.heap.size,0,none⟩:Addr).add j)=some u:=by
 intro j u hj
 have e1:(⟨w.heap.size,0,none⟩:Addr).add j=⟨w.heap.size,j,none⟩:=by simp [Addr.add];omega
 rw [e1,World.cell?_alloc_at _ _ _ _ rfl]
 simpa using hj
@[irreducible] def fallPost (rules:List RuleM) (l:List Prt) (w0:World) (e:Ending) (w':World):Prop :=
 Below w0.heap.size w0 w'∧∃ v xs,e=.returned (.tuple #[v,.int .i64 (findErr rules l)])∧xs.map (·.1)=(if findErr rules l=0 then allM rules l else [])∧w'.ownsRow w0.heap.size 95 3 v xs.length (mchsV xs)∧∀ x∈xs,MemM w0.heap.size x w'
def allJ (w:World) (bo:Nat) (pre:List MchX) (W:World):Prop :=
 ∃ v,W.heap[bo]?=some (.cells #[v] 58 (0,0))∧W.ownsRow w.heap.size 95 3 v pre.length (mchsV pre)∧(∀ x∈pre,MemM w.heap.size x W)∧Below w.heap.size w W
theorem MemM.ext {B:Nat} {x:MchX} {W W':World} (h:MemM B x W) (hb:Below W.heap.size W W'):MemM B x W':=owns_below h hb
theorem allJ.ext {w:World} {bo:Nat} {pre:List MchX} {W W':World} (h:allJ w bo pre W) (hb:Below W.heap.size W W'):allJ w bo pre W':=by
 obtain ⟨v,h1,h2,h3,h4⟩:=h
 exact ⟨v,keeps hb h1,owns_below h2 hb,fun x hx=>(h3 x hx).ext hb,bthen h4 hb⟩
theorem owns_other {W W':World} {B:Nat} {e:TypeId} {size n:Nat} {v:Value} {xs:List Value} (h:W.ownsRow B e size v n xs) (hk:∀ (k:Nat) (cs:Array Value) (fr:Nat×Nat),W.heap[k]?=some (.cells cs e fr)→W'.heap[k]?=W.heap[k]?):W'.ownsRow B e size v n xs:=by
 obtain ⟨g1,g2⟩:=h
 refine ⟨g1,?_⟩
 rcases g2 with g2 | ⟨k,cap,cur,hv,hB,hh,r⟩
 ·exact Or.inl g2
 ·exact Or.inr ⟨k,cap,cur,hv,hB,(hk k _ _ hh).trans hh,r⟩
theorem put_keeps {W:World} {D:Nat} {r:Loop} (o:Obj) (h:W.heap[D]?=some (.loop r)) {k:Nat} {cs:Array Value} {T:TypeId} {fr:Nat×Nat} (hc:W.heap[k]?=some (.cells cs T fr)):(W.putObj D o).heap[k]?=W.heap[k]? :=
 World.putObj_heap_other (fun e=>by subst e;rw [h] at hc;cases hc)
theorem put_below {w W:World} {D:Nat} (o:Obj) (hD:w.heap.size≤D) (h:Below w.heap.size w W):Below w.heap.size w (W.putObj D o) :=
 ⟨h.os,h.tape,h.output,by have:=h.size;simp [World.putObj];exact this,fun k hk=>(World.putObj_heap_other (by omega)).trans (h.block k hk)⟩
theorem allJ.put {w:World} {bo:Nat} {pre:List MchX} {W:World} {D:Nat} {r:Loop} (o:Obj) (hD:w.heap.size≤D) (hl:W.heap[D]?=some (.loop r)) (h:allJ w bo pre W):allJ w bo pre (W.putObj D o):=by
 obtain ⟨v,h1,h2,h3,h4⟩:=h
 exact ⟨v,(put_keeps o hl h1).trans h1,owns_other h2 (fun k cs fr hc=>put_keeps o hl hc),fun x hx=>owns_other (h3 x hx) (fun k cs fr hc=>put_keeps o hl hc),put_below o hD h4⟩
theorem MemM.put {B:Nat} {x:MchX} {W:World} {D:Nat} {r:Loop} (o:Obj) (hl:W.heap[D]?=some (.loop r)) (h:MemM B x W):MemM B x (W.putObj D o):=owns_other h (fun k cs fr hc=>put_keeps o hl hc)
theorem allJ.step {w:World} {bo:Nat} {pre:List MchX} {x:MchX} {W:World} (hx:MemM w.heap.size x W) (hbo:w.heap.size≤bo) {v v':Value} {o:Obj} {w6:World} (h1:W.heap[bo]?=some (.cells #[v] 58 (0,0))) (h2:W.ownsRow w.heap.size 95 3 v pre.length (mchsV pre)) (h3:∀ x∈pre,MemM w.heap.size x W) (h4:Below w.heap.size w W)
  (ho:w6.ownsRow w.heap.size 95 3 v' (pre.length+1) (mchsV pre++mchV x)) (hg:(W.alloc o).grownBy w6 v.ownBlock) :
  allJ w bo (pre++[x]) (w6.setCell ⟨bo,0,none⟩ v')∧KpF w.heap.size none W (w6.setCell ⟨bo,0,none⟩ v')∧(∀ D,D<W.heap.size→(∀ cs T fr,W.heap[D]?≠some (.cells cs T fr))→(w6.setCell ⟨bo,0,none⟩ v').heap[D]?=W.heap[D]?)∧w6.cell? ⟨bo,0,none⟩=some v∧w6.frozen? ⟨bo,0,none⟩=false:=by
 have hs:=h4.size
 have h2a:=h2.alloc o
 have hrow:∀ k,v.ownBlock=some k→w.heap.size≤k∧∃ (cs:Array Value) (fr:Nat×Nat),W.heap[k]?=some (.cells cs 95 fr):=fun k hk=>by
  rcases h2.2 with ⟨hv,_⟩ | ⟨q,cap,cur,hv,hB,hh,_⟩
  ·rw [hv] at hk;simp [Value.ownBlock] at hk
  ·rw [hv] at hk;simp [Value.ownBlock] at hk;subst hk;exact ⟨hB,_,_,hh⟩
 have hkeep:∀ k,k<W.heap.size→v.ownBlock≠some k→w6.heap[k]?=W.heap[k]?:=fun k hk hne=>by
  rw [hg.block k (by simp;omega) (fun e=>hne e.symm),Below.heap_alloc _ _ _ hk]
 have hcell:∀ (k:Nat) (cs:Array Value) (T:TypeId) (fr:Nat×Nat),W.heap[k]?=some (.cells cs T fr)→T≠95→w6.heap[k]?=W.heap[k]?:=fun k cs T fr hc hT=>hkeep k (keeps_lt hc) (fun e=>by
  obtain ⟨_,cs',fr',h⟩:=hrow k e
  rw [hc] at h;cases h;exact hT rfl)
 have hb6:w6.heap[bo]?=some (.cells #[v] 58 (0,0)):=(hcell _ _ _ _ h1 (by decide)).trans h1
 have hset:∀ k,k≠bo→(w6.setCell ⟨bo,0,none⟩ v').heap[k]?=w6.heap[k]?:=fun k hk=>heap_setCell_other _ _ _ _ hk
 have hmem:∀ y,MemM w.heap.size y W→MemM w.heap.size y (w6.setCell ⟨bo,0,none⟩ v'):=fun y hy=>owns_other hy (fun k cs fr hc=>by
  rw [hset k (fun e=>by subst e;rw [h1] at hc;cases hc),hcell k _ _ _ hc (by decide)])
 refine ⟨⟨v',?_,?_,?_,?_⟩,⟨?_,?_,?_,?_,?_,?_⟩,?_,?_,?_⟩
 ·have:=heap_setCell_same w6 bo 0 _ _ v' hb6
  exact this
 ·rw [List.length_append,mchsV_snoc]
  exact owns_other ho (fun k cs fr hc=>hset k (fun e=>by subst e;rw [hb6] at hc;cases hc))
 ·intro y hy
  rcases List.mem_append.1 hy with hy | hy
  ·exact hmem y (h3 y hy)
  ·obtain rfl:y=x:=by simpa using hy
   exact hmem y hx
 ·exact ((h4.alloc hs o).grown hg (by simp;omega) (fun q e=>(hrow q e).1)).setCell (p:=⟨bo,0,none⟩) hbo _
 ·exact hg.os
 ·exact hg.tape
 ·exact hg.output
 ·have:=hg.size;simp at this ⊢;omega
 ·intro k hk hk2
  rw [hset k (by omega),hkeep k hk2 (fun e=>by have:=(hrow k e).1;omega)]
 ·intro k cs T fr hc hT1 hT2 _
  rw [hset k (fun e=>by subst e;rw [h1] at hc;cases hc;exact hT2 rfl),hcell k _ _ _ hc hT1]
 ·intro D hD hno
  rw [hset D (fun e=>by subst e;exact hno _ _ _ h1),hkeep D hD (fun e=>by obtain ⟨_,cs,fr,h⟩:=hrow D e;exact hno _ _ _ h)]
 ·simp only [World.cell?,hb6];rfl
 ·simp [World.frozen?,hb6]
theorem all_enter (args:Array Value) (w:World):(callFunc 84 args).run Tryz.prog w=.ok (.enter 84 args) w:=enter_own Tryz.func84 (by kernel_rfl) rfl args w
set_option maxRecDepth 100000 in
set_option maxHeartbeats 8000000 in
theorem find_All (rs:List RuleX) (hs:∀ x∈rs,SmallR x.1) (l:List Prt) (hl:SmallL l) (vr vl:Value) (w:World) (hT:Tabs w) (hM:MaxC w) (hr:RulesIn w vr rs) (hlr:PartRow w vl l) :
  Calls Tryz.prog 30 #[vr,vl] w (fallPost (rs.map (·.1)) l w):=by
 have HQ:RowKit.Hid (∀ z v xs w',findErr (rs.map (·.1)) l=z→xs.map (·.1)=(if z=0 then allM (rs.map (·.1)) l else [])→Below w.heap.size w w'→w'.ownsRow w.heap.size 95 3 v xs.length (mchsV xs)→(∀ x∈xs,MemM w.heap.size x w')→fallPost (rs.map (·.1)) l w (.returned (.tuple #[v,.int .i64 z])) w'):=Hd fun z v xs w' h1 h2 h3 h4 h5=>by
  subst h1;unfold fallPost;exact ⟨h3,v,xs,rfl,h2,h4,h5⟩
 generalize fallPost (rs.map (·.1)) l w=Q at *
 obtain ⟨ar,cpr,rfl,hcr⟩:=hr.shape
 obtain ⟨al,cpl,rfl,hcl⟩:=hlr.slice
 have CC:=Hd (find_check rs hs l hl.1 _ _ w hT hM hr hlr)
 have HS:=Hd hs
 have HL:=Hd hl
 have HT:=Hd hT
 have HMX:=Hd hM
 have HR:=Hd hr
 have HLR:=Hd hlr
 have hll:=hl.1
 clear hs hl hT hM hr hlr
 refine (callsIn_wide (n:=3)).1 ?_
 refine callsIn_of_wp_marks Tryz.func30 rfl trivial ?_ rfl
 simp only [Tryz.ntmps30,List.size_toArray,List.length_cons,List.length_nil,Nat.reduceAdd,Nat.reduceSub,Array.replicate_succ,Array.replicate_zero,List.push_toArray,List.append_toArray,List.nil_append,List.cons_append]
 gi_wp2_with (refine ⟨trivial,?_⟩;gi_at_call 55;fail)
 refine ⟨trivial,(callsIn_wide.2 CC.out).mono ?_⟩
 rintro e w1 ⟨rfl,hb1⟩
 have HB1:=Hd hb1
 clear hb1 CC
 by_cases hz:findErr (rs.map (·.1)) l=0
 case neg =>
  have HX:=Hd (HQ.out _ (.slice none 0 0) [] w1 rfl (by rw [if_neg hz];rfl) HB1.out (World.ownsRow_nil _ _ _ _) (fun x hx=>by cases hx))
  have g1:(findErr (rs.map (·.1)) l != 0)=true:=by rw [bne_iff_ne];exact hz
  clear hz
  generalize findErr (rs.map (·.1)) l=z at *
  gi_wp2
  refine ⟨.tuple #[.slice none 0 0,.int .i64 z],?_,HX.out⟩
  simp [results,Tryz.f30,go_sem]
 have HZ:=Hd hz
 rw [hz]
 clear hz
 gi_wp2_with (refine ⟨trivial,?_⟩;gi_at_call 56;fail)
 refine ⟨trivial,(callsIn_wide.2 (find_each _ _ _ _ _ _ _)).mono ?_⟩
 rintro e w3 ⟨rfl,rfl⟩
 have HB2:RowKit.Hid (Below w.heap.size w (w1.alloc (.cells #[.slice none 0 0] 58))):=Hd (HB1.out.alloc HB1.out.size _)
 have HO2:RowKit.Hid ((w1.alloc (.cells #[.slice none 0 0] 58)).heap[w1.heap.size]?=some (.cells #[.slice none 0 0] 58 (0,0))):=Hd (heap_alloc_new _ _)
 have HBO:RowKit.Hid (w.heap.size≤w1.heap.size):=Hd HB1.out.size
 generalize w1.alloc (.cells #[.slice none 0 0] 58)=w2 at *
 generalize w1.heap.size=bo at *
 gi_wp2
 have HB3:RowKit.Hid (Below w.heap.size w ((w2.alloc (.cells #[.slice ar rs.length cpr] 34)).alloc (.cells #[.slice al l.length cpl] 23))):=Hd ((HB2.out.alloc HB2.out.size _).alloc (by have:=HB2.out.size;simp;omega) _)
 have HO3:RowKit.Hid (((w2.alloc (.cells #[.slice ar rs.length cpr] 34)).alloc (.cells #[.slice al l.length cpl] 23)).heap[bo]?=some (.cells #[.slice none 0 0] 58 (0,0))):=Hd (by
  have:=keeps_lt HO2.out
  rw [Below.heap_alloc _ _ _ (by simp;omega),Below.heap_alloc _ _ _ (by omega)];exact HO2.out)
 have HR3:RowKit.Hid (((w2.alloc (.cells #[.slice ar rs.length cpr] 34)).alloc (.cells #[.slice al l.length cpl] 23)).heap[w2.heap.size]?=some (.cells #[.slice ar rs.length cpr] 34 (0,0))):=Hd (by
  rw [Below.heap_alloc _ _ _ (by simp)];exact heap_alloc_new _ _)
 have HL3:RowKit.Hid (((w2.alloc (.cells #[.slice ar rs.length cpr] 34)).alloc (.cells #[.slice al l.length cpl] 23)).heap[w2.heap.size+1]?=some (.cells #[.slice al l.length cpl] 23 (0,0))):=Hd (by
  have:=heap_alloc_new (w2.alloc (.cells #[.slice ar rs.length cpr] 34)) (.cells #[.slice al l.length cpl] 23)
  rw [World.size_alloc] at this;exact this)
 have HCR:RowKit.Hid (w.heap.size≤w2.heap.size):=Hd HB2.out.size
 generalize (w2.alloc (.cells #[.slice ar rs.length cpr] 34)).alloc (.cells #[.slice al l.length cpl] 23)=w3 at *
 generalize w2.heap.size=cr at *
 clear HB2 HO2
 have hfz:=findErr_zero.1 HZ.out
 have HH:=Hd (show (∀ x∈rs,ruleZ x.1=0)∧rs.length≤32∧wellB l=true from ⟨fun x hx=>hfz.2.2 x.1 (List.mem_map_of_mem hx),by have:=hfz.2.1;rw [List.length_map] at this;exact this,hfz.1⟩)
 clear hfz
 have hN:l.length*rs.length≤1048576*32:=Nat.mul_le_mul hll HH.out.2.1
 refine range_mem (enc:=encM) (gf:=84) (lb:=#[.pointer (some ⟨cr+1,0,none⟩),.pointer (some ⟨cr,0,none⟩)]) (Mem:=MemR w.heap.size rs.length) (Kp:=KpF w.heap.size none) (S:=fun xs=>xs.map (·.1)=allM (rs.map (·.1)) l) (N:=l.length*rs.length) rfl all_enter (fun _=>rfl) (allJ w bo)
  (fun x a' W=>∃ B,W.heap[B]?=some (.cells #[.int .i64 (x.1.1:Int),.int .i64 (x.1.2.1:Int),x.2] 95 (0,0))∧a'={ tmps:=#[.slice ar rs.length cpr,.slice al l.length cpl,undef,undef,.slice none 0 0,.int .i64 0,.int .i64 0,.pointer (some ⟨bo,0,none⟩),.pointer (some ⟨B,0,none⟩),.slice ar rs.length cpr,.slice al l.length cpl,.int .i64 0,.int .i64 0,.bool false,undef,.slice ar rs.length cpr,.slice al l.length cpl,.func (.func 84) #[] #[.pointer (some ⟨cr+1,0,none⟩),.pointer (some ⟨cr,0,none⟩)],.agg #[.int .i64 (x.1.1:Int),.int .i64 (x.1.2.1:Int),x.2],undef,undef,undef,undef,undef],defers:=[] })
  (fun o=>each_is rs HS.out HH.out.1 HH.out.2.1 l HH.out.2.2 HL.out _ _ w _ HT.out HMX.out HR.out HLR.out w.heap.size (cr+1) cr none ⟨(HB3.out.alloc HB3.out.size _).alloc (by have:=HB3.out.size;simp;omega) _,?eL,?eR,⟨by have:=HCR.out;omega,HCR.out,Nat.le_refl _⟩,fun k e=>by cases e⟩ (by have:=HB3.out.size;simp;omega))
  (fun pre W W' h hb=>h.ext hb) (fun x W W' h hb=>⟨h.1.ext hb,h.2⟩) (fun pre W o r hl h=>h.put o (by have:=HB3.out.size;omega) hl) (fun x W o r hl h=>⟨h.1.put o hl,h.2⟩)
  (fun x a' W o r hl h=>by obtain ⟨B,h1,h2⟩:=h;exact ⟨B,(put_keeps o hl h1).trans h1,h2⟩)
  (fun h k=>h.trans k) (fun W W' h=>KpF.of_below h) (fun W o r hl=>KpF.put o (by have:=HB3.out.size;omega) hl)
  ⟨.slice none 0 0,HO3.out,World.ownsRow_nil _ _ _ _,(fun x hx=>by cases hx),HB3.out⟩ ?assign ?body ?done
 case eL=>rw [Below.heap_alloc _ _ _ (by have:=keeps_lt HL3.out;simp;omega),Below.heap_alloc _ _ _ (keeps_lt HL3.out)];exact HL3.out
 case eR=>rw [Below.heap_alloc _ _ _ (by have:=keeps_lt HR3.out;simp;omega),Below.heap_alloc _ _ _ (keeps_lt HR3.out)];exact HR3.out
 case assign =>
  intro lp x W K hm hK
  replace hm:=hm.1
  obtain ⟨⟨xr,xi,xb⟩,xv⟩:=x
  obtain ⟨xa,xn,xc,rfl⟩:∃ a n c,xv=.slice a n c:=owns_slice hm
  clear hm
  unfold encM
  rw [fold_one]
  change Code.wpIn (Fence.wide.inRound lp) 2 Tryz.prog _ _ { tmps:=#[.slice ar rs.length cpr,.slice al l.length cpl,undef,undef,.slice none 0 0,.int .i64 0,.int .i64 0,.pointer (some ⟨bo,0,none⟩),undef,.slice ar rs.length cpr,.slice al l.length cpl,.int .i64 0,.int .i64 0,.bool false,undef,.slice ar rs.length cpr,.slice al l.length cpl,.func (.func 84) #[] #[.pointer (some ⟨cr+1,0,none⟩),.pointer (some ⟨cr,0,none⟩)],.agg #[.int .i64 (xr:Int),.int .i64 (xi:Int),.slice xa xn xc],undef,undef,undef,undef,undef],defers:=[] } W
  have HX:=Hd (hK _ _ ((Below.refl _ W).alloc (Nat.le_refl _) (.cells #[.int .i64 (xr:Int),.int .i64 (xi:Int),.slice xa xn xc] 95)) ⟨W.heap.size,heap_alloc_new _ _,rfl⟩)
  clear hK
  gi_wp2
  exact HX.out
 case body =>
  rintro lp pre x a' W hj hm ⟨B,hB,rfl⟩ hlen hsz hl hd
  replace hm:=hm.1
  obtain ⟨⟨xr,xi,xb⟩,xv⟩:=x
  obtain ⟨xa,xn,xc,rfl⟩:∃ a n c,xv=.slice a n c:=owns_slice hm
  simp only [] at hB
  obtain ⟨v,h1,h2,h3,h4⟩:=hj
  have HM:=Hd hm
  have H1:=Hd h1
  have H2:=Hd h2
  have H3:=Hd h3
  have H4:=Hd h4
  have HLD:=Hd hl
  have HDD:=Hd hd
  obtain ⟨va,vn,vc,rfl⟩:=owns_slice h2
  have c1:W.cell? ⟨bo,0,none⟩=some (.slice va vn vc):=by simp [World.cell?,h1]
  have c2:W.cell? ⟨B,0,none⟩=some (.int .i64 (xr:Int))∧W.cell? ⟨B,1,none⟩=some (.int .i64 (xi:Int))∧W.cell? ⟨B,2,none⟩=some (.slice xa xn xc):=by simp [World.cell?,hB]
  obtain ⟨c2,c3,c4⟩:=c2
  obtain ⟨i0,hi,hz0,hz1,hz2⟩:=info_parts Minfo_match
  have h4s:=h4.size
  clear hm h1 h2 h3 h4 hl hd hB
  simp only []
  gi_wp2_with (gi_at_builtin;refine wpListIn_append_own _ rfl _ _ 58 rfl w.heap.size 95 i0 _ 3 40 Tryz.underlying58 hi hz0 hz1 hz2 rfl (by decide) _ _ _ rfl (H2.out.alloc _) ⟨W.heap.size,0,none⟩ 1 1 [.int .i64 (xr:Int),.int .i64 (xi:Int),.slice xa xn xc] rfl rfl (lit_cells _ _ _) (by intro u hu;simp at hu;rcases hu with rfl | rfl | rfl <;> rfl) (by unfold maxLen;omega) (by omega) (by simp;omega) ?_;intro v' w6 hown hgr _;obtain ⟨va',vn',vc',rfl⟩:=owns_slice hown;obtain ⟨g1,g2,g3,g4,g5⟩:=allJ.step (x:=((xr,xi,xb),.slice xa xn xc)) HM.out HBO.out H1.out H2.out H3.out H4.out hown hgr)
  have HX:RowKit.Hid (roundM (allJ w bo) (KpF w.heap.size none) w3.heap.size (pre++[((xr,xi,xb),.slice xa xn xc)]) W   .normal { tmps:=#[],defers:=[] } (w6.setCell ⟨bo,0,none⟩ (.slice va' vn' vc'))):=Hd
   ⟨g3 _ (by omega) (fun cs T fr e=>by rw [HDD.out] at e;cases e),g3 _ (by omega) (fun cs T fr e=>by obtain ⟨r,hr⟩:=HLD.out;rw [hr] at e;cases e),g2,g1⟩
  clear hown hgr g1 g2 g3
  gi_wp2
  exact HX.out
 case done =>
  rintro xs W hS ⟨v,h1,h2,h3,h4⟩ hd
  obtain ⟨va,vn,vc,rfl⟩:=owns_slice h2
  have c1:W.cell? ⟨bo,0,none⟩=some (.slice va vn vc):=by simp [World.cell?,h1]
  have hpk:∀ (k:Nat) (cs:Array Value) (T:TypeId) (fr:Nat×Nat),W.heap[k]?=some (.cells cs T fr)→(W.putObj w3.heap.size (.deferred none)).heap[k]?=W.heap[k]?:=fun k cs T fr hc=>World.putObj_heap_other (fun e=>by subst e;rw [hd] at hc;cases hc)
  have HX:=Hd (HQ.out 0 (.slice va vn vc) xs (W.putObj w3.heap.size (.deferred none)) HZ.out (by rw [if_pos rfl];exact hS) (put_below _ HB3.out.size h4) (owns_other h2 (fun k cs fr hc=>hpk k cs _ fr hc)) (fun x hx=>owns_other (h3 x hx) (fun k cs fr hc=>hpk k cs _ fr hc)))
  have HD:=Hd hd
  clear h1 h2 h3 h4 hpk hS hd
  gi_wp2
  refine ⟨by simp,.inl ⟨_,_,rfl,run_takeDeferred HD.out,?_⟩⟩
  refine ⟨.tuple #[.slice va vn vc,.int .i64 0],?_,HX.out⟩
  simp [results,Tryz.f30,go_sem]
end Go.Proofs.YtlkheofphafofaaGreatDoor
namespace Go.Proofs.YtlkheofphafofaaGreatDoor
set_option linter.all false
attribute [local irreducible] Calls
open Go.RowKit

set_option maxRecDepth 100000 in
set_option maxHeartbeats 4000000 in
theorem law18_name (s:ByteArray) (w:World):Calls Tryz.prog 54 #[.string s] w fun e w'=>e=.returned (.agg #[.int .u8 26,.int .i64 0,.string s])∧Below w.heap.size w w':=by
 have HX:RowKit.Hid (∀ w',Below w.heap.size w w'→(fun (e:Ending) w'=>e=.returned (.agg #[.int .u8 26,.int .i64 0,.string s])∧Below w.heap.size w w') (.returned (.agg #[.int .u8 26,.int .i64 0,.string s])) w'):=Hd fun w' h=>⟨rfl,h⟩
 generalize (fun (e:Ending) w'=>e=.returned (.agg #[.int .u8 26,.int .i64 0,.string s])∧Below w.heap.size w w')=Q at *
 go_enter Tryz.func54,Tryz.ntmps54
 go_wp2_with fail
 refine bodyPost_ret (v:=.agg #[.int .u8 26,.int .i64 0,.string s]) ?_ rfl (HX.out _ ((Below.refl _ _).alloc (Nat.le_refl _) _))
 simp [results,Tryz.f54,go_sem]
set_option maxRecDepth 100000 in
set_option maxHeartbeats 8000000 in
theorem law18_great (rs:List RuleX) (hs:∀ x∈rs,SmallR x.1) (hn:rs.length≤1048576) (vr:Value) (l:List Prt) (hl:l.length≤1048576) (vl:Value) (most:Int) (w:World) (hr:RulesIn w vr rs) (hlr:PartRow w vl l) :
  Calls Tryz.prog 28 #[vr,vl,.int .i64 most] w (AnyBool w):=by
 have HQ:RowKit.Hid (∀ z w',Below w.heap.size w w'→AnyBool w (.returned (.bool z)) w'):=Hd fun z w' hb=>AnyBool.mk z hb
 generalize AnyBool w=Q at *
 have CG:=Hd (ref_Great rs hs hn vr 1500 w hr)
 have CY:=Hd (fun W (hb:Below w.heap.size w W)=>ref_Ways18 rs (fun x hx=>(hs x hx).h.1) hn vr l hl vl W (hr.below hb) (hlr.below hb))
 obtain ⟨ar,cr,rfl,hcr⟩:=hr.shape
 obtain ⟨al,cl,rfl,hcl⟩:=hlr.slice
 clear hs hr hlr
 have HX0:=Hd (fun z=>HQ.out z w (Below.refl _ _))
 go_enter Tryz.func28,Tryz.ntmps28
 by_cases h32:(rs.length:Int)≤32
 ·by_cases h60:(60:Int)<l.length
  ·go_wp2_with fail
   exact HX0.out _
  ·go_wp2_with fail
   refine CG.out.mono ?_
   intro e w2 h2
   obtain ⟨y,rfl,hb2⟩:=h2.out
   have HB2:=Hd hb2
   clear h2 hb2 CG
   cases y with
   | true =>
    have HX:=Hd (fun z=>HQ.out z w2 HB2.out)
    go_wp2_with fail
    exact HX.out _
   | false =>
    go_wp2_with fail
    refine (CY.out w2 HB2.out).mono ?_
    intro e w3 h3
    obtain ⟨z,rfl,hb3⟩:=h3.out
    have HX:=Hd (fun z=>HQ.out z w3 (bthen HB2.out hb3))
    clear h3 hb3 CY
    go_wp2_with fail
    all_goals exact HX.out _
 ·go_wp2_with fail
  all_goals exact HX0.out _
theorem fallPost.fx {w0 w':World} {e:Ending} (h:fallPost [fxR0,fxR1] fxL w0 e w'):∃ va vc xs,e=.returned (.tuple #[.slice va 4 vc,.int .i64 0])∧xs.map (·.1)=allM [fxR0,fxR1] fxL∧MchsIn w' (.slice va 4 vc) xs∧Below w0.heap.size w0 w':=by
 unfold fallPost at h
 obtain ⟨hb,v,xs,he,hxs,hown,hmem⟩:=h
 rw [fx_err] at he hxs
 rw [if_pos rfl] at hxs
 have hl:xs.length=4:=by
  have:=congrArg List.length hxs
  rw [List.length_map,fx_all] at this
  exact this
 have hr:=Row.of_owns hown
 rw [hl] at hr
 obtain ⟨va,vc,rfl,_⟩:=Row.shape hr
 exact ⟨va,vc,xs,he,hxs,⟨by rw [hl];exact hr,fun x hx=>Row.of_owns (hmem x hx)⟩,hb⟩
theorem fxR0_small:SmallR fxR0:=⟨by decide,by decide,⟨by decide,by decide⟩,⟨by decide,by decide⟩,⟨by decide,by decide⟩⟩
theorem fxR1_small:SmallR fxR1:=⟨by decide,by decide,⟨by decide,by decide⟩,⟨by decide,by decide⟩,⟨by decide,by decide⟩⟩
theorem fxL_small:SmallL fxL:=⟨by decide,by decide⟩
theorem lit_rules (w:World) (l:List RuleX) (hl:l.length≤1000000):Row (w.alloc (.cells (l.flatMap ruleV).toArray 25)) (.slice (some ⟨w.heap.size,0,none⟩) l.length l.length) l.length 5 (l.flatMap ruleV):=by
 have e:=flat_len (g:=ruleV) (sz:=5) (fun _=>rfl) l
 have:(w.alloc (.cells (l.flatMap ruleV).toArray 25)).ownsRow 0 25 5 (.slice (some ⟨w.heap.size,0,none⟩) l.length l.length) l.length (l.flatMap ruleV):=by
  refine ⟨e,Or.inr ⟨w.heap.size,l.length,(l.flatMap ruleV).toArray,rfl,Nat.zero_le _,heap_alloc_new _ _,Nat.le_refl _,by unfold maxLen;omega,by simp [e],by simp [List.take_of_length_le,e]⟩⟩
 exact Row.of_owns this
set_option maxRecDepth 100000 in
set_option maxHeartbeats 16000000 in
theorem law18_fixed (w:World) (hT:Tabs w) (hM:MaxC w):Calls Tryz.prog 29 #[] w fun e w'=>e=.returned (.bool true)∧Below w.heap.size w w':=by
 have HQ:RowKit.Hid (∀ w',Below w.heap.size w w'→(fun (e:Ending) w'=>e=.returned (.bool true)∧Below w.heap.size w w') (.returned (.bool true)) w'):=Hd fun w' h=>⟨rfl,h⟩
 generalize (fun (e:Ending) w'=>e=.returned (.bool true)∧Below w.heap.size w w')=Q at *
 have HT:=Hd hT
 have HMX:=Hd hM
 clear hT hM
 have HS1:RowKit.Hid ((w.alloc (.cells #[.int .u8 37,.int .i64 2,.string ⟨#[43]⟩] 48)).heap[w.heap.size]?=some (.cells #[.int .u8 37,.int .i64 2,.string ⟨#[43]⟩] 48 (0,0))):=Hd (heap_alloc_new _ _)
 have HB1:RowKit.Hid (Below w.heap.size w (w.alloc (.cells #[.int .u8 37,.int .i64 2,.string ⟨#[43]⟩] 48))):=Hd ((Below.refl _ _).alloc (Nat.le_refl _) _)
 go_enter Tryz.func29,Tryz.ntmps29
 go_upto_region 2 with (fail)
 generalize w.alloc (.cells #[.int .u8 37,.int .i64 2,.string ⟨#[43]⟩] 48)=w1 at *
 have HK:RowKit.Hid (∀ W,Below w1.heap.size w1 W→W.cell? ⟨w.heap.size,0,none⟩=some (.int .u8 37)∧W.cell? ⟨w.heap.size,1,none⟩=some (.int .i64 2)∧W.cell? ⟨w.heap.size,2,none⟩=some (.string ⟨#[43]⟩)):=Hd fun W hb=>by
  have h1:=keeps hb HS1.out
  simp [World.cell?,h1]
 have HTM:RowKit.Hid (∀ W,Below w1.heap.size w1 W→Tabs W∧MaxC W):=Hd fun W hb=>⟨HT.out.below (bthen HB1.out hb),HMX.out.below (bthen HB1.out hb)⟩
 have HEND:RowKit.Hid (∀ W,Below w1.heap.size w1 W→Below w.heap.size w W):=Hd fun W hb=>bthen HB1.out hb
 generalize hgs:w.heap.size=gs at *
 have HGS:=Hd hgs
 clear hgs
 refine region_cut (fun a a' w'=>∃ g,a'=(((((a.put (some 8) (.agg #[.int .u8 37,.int .i64 2,.string ⟨#[43]⟩])).put (some 9) (.agg #[.int .u8 26,.int .i64 0,.string ⟨#[120]⟩])).put (some 10) (.agg #[.int .u8 26,.int .i64 0,.string ⟨#[121]⟩])).put (some 11) (.slice (some ⟨g,0,none⟩) 3 3)).put (some 2) (.slice (some ⟨g,0,none⟩) 3 3))∧PartRow w' (.slice (some ⟨g,0,none⟩) 3 3) fxXY∧Below w1.heap.size w1 w') ?_ ?_
 ·have HBd:=Hd (Below.refl w1.heap.size w1).drew
  have HKS:RowKit.Hid (∀ W W',Below W.heap.size W W'→((W.cell? ⟨gs,0,none⟩=some (.int .u8 37)∧W.cell? ⟨gs,1,none⟩=some (.int .i64 2)∧W.cell? ⟨gs,2,none⟩=some (.string ⟨#[43]⟩))∧RowKit.Hid (Below w1.heap.size w1 W))→((W'.cell? ⟨gs,0,none⟩=some (.int .u8 37)∧W'.cell? ⟨gs,1,none⟩=some (.int .i64 2)∧W'.cell? ⟨gs,2,none⟩=some (.string ⟨#[43]⟩))∧RowKit.Hid (Below w1.heap.size w1 W'))):=Hd fun W W' hb h=>⟨HK.out _ (h.2.out.trans (hb.mono h.2.out.size)),Hd (h.2.out.trans (hb.mono h.2.out.size))⟩
  go_region_held3 (fun W=>((W.cell? ⟨gs,0,none⟩=some (.int .u8 37)∧W.cell? ⟨gs,1,none⟩=some (.int .i64 2)∧W.cell? ⟨gs,2,none⟩=some (.string ⟨#[43]⟩))∧RowKit.Hid (Below w1.heap.size w1 W))) (first | exact ⟨HK.out _ HBd.out,HBd⟩ | exact HKS.out _ _ hb (by assumption) | exact HKS.out _ _ ((Below.refl _ _).alloc (Nat.le_refl _) _) (by assumption)) ((go_at_call 54;(with_reducible refine (law18_name _ _).mono ?_);(rintro e w4 ⟨rfl,hb⟩);(try dsimp only)))
  all_goals
   have hS:=‹(_∧_∧_)∧RowKit.Hid (Below w1.heap.size w1 (w4.alloc _))›
   exact ⟨w4.heap.size,by kernel_rfl,lit_part w4 fxXY (by decide),hS.2.out⟩
 ·rintro _ w2 ⟨g,rfl,hxy,hb2⟩
  (try simp only [Act.put,List.setIfInBounds_toArray,List.set_cons_zero,List.set_cons_succ])
  have HXY:=Hd hxy
  have HB2:=Hd hb2
  clear hxy hb2
  go_wp2_with fail
  refine (law18_name _ _).mono ?_
  rintro e w3 ⟨rfl,hb3⟩
  have HA:RowKit.Hid (PartRow (w3.alloc (.cells #[.int .u8 26,.int .i64 0,.string ⟨#[97]⟩] 48)) (.slice (some ⟨w3.heap.size,0,none⟩) 1 1) fxA):=Hd (lit_part w3 fxA (by decide))
  have HB3:=Hd ((bthen HB2.out hb3).alloc (bthen HB2.out hb3).size (.cells #[.int .u8 26,.int .i64 0,.string ⟨#[97]⟩] 48))
  have HXY3:=Hd ((HXY.out.below hb3).below ((Below.refl _ _).alloc (Nat.le_refl _) (.cells #[.int .u8 26,.int .i64 0,.string ⟨#[97]⟩] 48)))
  clear hb3 HXY HB2
  go_upto_region 4 with (fail)
  generalize w3.alloc (.cells #[.int .u8 26,.int .i64 0,.string ⟨#[97]⟩] 48)=w4 at *
  generalize w3.heap.size=ga at *
  have HRH:RowKit.Hid (HoleRow (w4.alloc (.cells #[.string ⟨#[120]⟩,.int .u8 1,.string ⟨#[121]⟩,.int .u8 1] 43)) (.slice (some ⟨w4.heap.size,0,none⟩) 2 2) fxH):=Hd (lit_holes w4 fxH (by decide))
  have hb5:Below w4.heap.size w4 ((w4.alloc (.cells #[.string ⟨#[120]⟩,.int .u8 1,.string ⟨#[121]⟩,.int .u8 1] 43)).alloc (.cells #[.string ⟨#[114]⟩,.int .u8 2,.slice (some ⟨w4.heap.size,0,none⟩) 2 2,.slice (some ⟨g,0,none⟩) 3 3,.slice (some ⟨g,0,none⟩) 3 3,.string ⟨#[115]⟩,.int .u8 2,.slice none 0 0,.slice (some ⟨ga,0,none⟩) 1 1,.slice (some ⟨ga,0,none⟩) 1 1] 25)):=((Below.refl _ _).alloc (Nat.le_refl _) _).alloc (by simp) _
  have HRS:RowKit.Hid (RulesIn ((w4.alloc (.cells #[.string ⟨#[120]⟩,.int .u8 1,.string ⟨#[121]⟩,.int .u8 1] 43)).alloc (.cells #[.string ⟨#[114]⟩,.int .u8 2,.slice (some ⟨w4.heap.size,0,none⟩) 2 2,.slice (some ⟨g,0,none⟩) 3 3,.slice (some ⟨g,0,none⟩) 3 3,.string ⟨#[115]⟩,.int .u8 2,.slice none 0 0,.slice (some ⟨ga,0,none⟩) 1 1,.slice (some ⟨ga,0,none⟩) 1 1] 25)) (.slice (some ⟨w4.heap.size+1,0,none⟩) 2 2) [(fxR0,.slice (some ⟨w4.heap.size,0,none⟩) 2 2,.slice (some ⟨g,0,none⟩) 3 3,.slice (some ⟨g,0,none⟩) 3 3),(fxR1,.slice none 0 0,.slice (some ⟨ga,0,none⟩) 1 1,.slice (some ⟨ga,0,none⟩) 1 1)]):=Hd (by
   have hh:=HRH.out.below ((Below.refl _ _).alloc (Nat.le_refl _) (.cells #[.string ⟨#[114]⟩,.int .u8 2,.slice (some ⟨w4.heap.size,0,none⟩) 2 2,.slice (some ⟨g,0,none⟩) 3 3,.slice (some ⟨g,0,none⟩) 3 3,.string ⟨#[115]⟩,.int .u8 2,.slice none 0 0,.slice (some ⟨ga,0,none⟩) 1 1,.slice (some ⟨ga,0,none⟩) 1 1] 25))
   have h0:RuleIn _ fxR0 (.slice (some ⟨w4.heap.size,0,none⟩) 2 2) (.slice (some ⟨g,0,none⟩) 3 3) (.slice (some ⟨g,0,none⟩) 3 3):=⟨hh,HXY3.out.below hb5,HXY3.out.below hb5⟩
   have h1:RuleIn ((w4.alloc (.cells #[.string ⟨#[120]⟩,.int .u8 1,.string ⟨#[121]⟩,.int .u8 1] 43)).alloc (.cells #[.string ⟨#[114]⟩,.int .u8 2,.slice (some ⟨w4.heap.size,0,none⟩) 2 2,.slice (some ⟨g,0,none⟩) 3 3,.slice (some ⟨g,0,none⟩) 3 3,.string ⟨#[115]⟩,.int .u8 2,.slice none 0 0,.slice (some ⟨ga,0,none⟩) 1 1,.slice (some ⟨ga,0,none⟩) 1 1] 25)) fxR1 (.slice none 0 0) (.slice (some ⟨ga,0,none⟩) 1 1) (.slice (some ⟨ga,0,none⟩) 1 1):=⟨⟨rfl,none,0,rfl,Nat.le_refl _,fun _=>rfl,fun h=>absurd h (by decide)⟩,HA.out.below hb5,HA.out.below hb5⟩
   have hl:=lit_rules (w4.alloc (.cells #[.string ⟨#[120]⟩,.int .u8 1,.string ⟨#[121]⟩,.int .u8 1] 43)) [(fxR0,.slice (some ⟨w4.heap.size,0,none⟩) 2 2,.slice (some ⟨g,0,none⟩) 3 3,.slice (some ⟨g,0,none⟩) 3 3),(fxR1,.slice none 0 0,.slice (some ⟨ga,0,none⟩) 1 1,.slice (some ⟨ga,0,none⟩) 1 1)] (by simp)
   rw [World.size_alloc] at hl
   refine ⟨hl,fun x hx=>?_⟩
   simp only [List.mem_cons,List.mem_nil_iff,or_false] at hx
   rcases hx with rfl | rfl
   ·exact h0
   ·exact h1)
  have HB5:=Hd (bthen HB3.out hb5)
  clear hb5 HRH HXY3 HA HB3
  go_upto_region 5 with (fail)
  have hK5:∀ W,Below w1.heap.size w1 W→(W.cell? ⟨gs,0,none⟩=some (.int .u8 37)∧W.cell? ⟨gs,1,none⟩=some (.int .i64 2)∧W.cell? ⟨gs,2,none⟩=some (.string ⟨#[43]⟩)):=HK.out
  generalize (w4.alloc (.cells #[.string ⟨#[120]⟩,.int .u8 1,.string ⟨#[121]⟩,.int .u8 1] 43)).alloc (.cells #[.string ⟨#[114]⟩,.int .u8 2,.slice (some ⟨w4.heap.size,0,none⟩) 2 2,.slice (some ⟨g,0,none⟩) 3 3,.slice (some ⟨g,0,none⟩) 3 3,.string ⟨#[115]⟩,.int .u8 2,.slice none 0 0,.slice (some ⟨ga,0,none⟩) 1 1,.slice (some ⟨ga,0,none⟩) 1 1] 25)=w5 at *
  generalize w4.heap.size=gh at *
  have HKS:RowKit.Hid (∀ W W',Below W.heap.size W W'→((W.cell? ⟨gs,0,none⟩=some (.int .u8 37)∧W.cell? ⟨gs,1,none⟩=some (.int .i64 2)∧W.cell? ⟨gs,2,none⟩=some (.string ⟨#[43]⟩))∧RowKit.Hid (Below w5.heap.size w5 W))→((W'.cell? ⟨gs,0,none⟩=some (.int .u8 37)∧W'.cell? ⟨gs,1,none⟩=some (.int .i64 2)∧W'.cell? ⟨gs,2,none⟩=some (.string ⟨#[43]⟩))∧RowKit.Hid (Below w5.heap.size w5 W'))):=Hd fun W W' hb h=>⟨HK.out _ (HB5.out.trans ((h.2.out.trans (hb.mono h.2.out.size)).mono HB5.out.size)),Hd (h.2.out.trans (hb.mono h.2.out.size))⟩
  clear hK5
  have HBd:=Hd (Below.refl w5.heap.size w5).drew
  have HS0:=Hd (HK.out _ (HB5.out.trans (HBd.out.mono HB5.out.size)))
  have CFA:=Hd (fun W (hb:Below w5.heap.size w5 (W.alloc (.cells #[.int .u8 37,.int .i64 2,.string ⟨#[43]⟩,.int .u8 37,.int .i64 2,.string ⟨#[43]⟩,.int .u8 26,.int .i64 0,.string ⟨#[97]⟩,.int .u8 26,.int .i64 0,.string ⟨#[98]⟩,.int .u8 26,.int .i64 0,.string ⟨#[97]⟩] 48)))=>find_All [(fxR0,.slice (some ⟨gh,0,none⟩) 2 2,.slice (some ⟨g,0,none⟩) 3 3,.slice (some ⟨g,0,none⟩) 3 3),(fxR1,.slice none 0 0,.slice (some ⟨ga,0,none⟩) 1 1,.slice (some ⟨ga,0,none⟩) 1 1)] (by intro x hx;simp only [List.mem_cons,List.mem_nil_iff,or_false] at hx;rcases hx with rfl | rfl;exact fxR0_small;exact fxR1_small) fxL fxL_small _ _ (W.alloc (.cells #[.int .u8 37,.int .i64 2,.string ⟨#[43]⟩,.int .u8 37,.int .i64 2,.string ⟨#[43]⟩,.int .u8 26,.int .i64 0,.string ⟨#[97]⟩,.int .u8 26,.int .i64 0,.string ⟨#[98]⟩,.int .u8 26,.int .i64 0,.string ⟨#[97]⟩] 48)) (HTM.out _ (bthen HB5.out hb)).1 (HTM.out _ (bthen HB5.out hb)).2 (HRS.out.below hb) (lit_part W fxL (by decide)))
  refine region_cut (fun a a' w'=>∃ (gl:Nat) (va:Option Addr) (vc:Nat) (xs:List MchX),a'=(((((((((((((a.put (some 25) (.slice (some ⟨gh+1,0,none⟩) 2 2)).put (some 26) (.agg #[.int .u8 37,.int .i64 2,.string ⟨#[43]⟩])).put (some 27) (.agg #[.int .u8 37,.int .i64 2,.string ⟨#[43]⟩])).put (some 28) (.agg #[.int .u8 26,.int .i64 0,.string ⟨#[97]⟩])).put (some 29) (.agg #[.int .u8 26,.int .i64 0,.string ⟨#[98]⟩])).put (some 30) (.agg #[.int .u8 26,.int .i64 0,.string ⟨#[97]⟩])).put (some 31) (.slice (some ⟨gl,0,none⟩) 5 5)).put (some 32) (.tuple #[.slice va 4 vc,.int .i64 0])).put (some 24) (.tuple #[.slice va 4 vc,.int .i64 0])).put (some 33) (.slice va 4 vc)).put (some 34) (.int .i64 0)).put (some 5) (.slice va 4 vc)).put (some 6) (.int .i64 0))∧xs.map (·.1)=allM [fxR0,fxR1] fxL∧MchsIn w' (.slice va 4 vc) xs∧Below w5.heap.size w5 w') ?_ ?_
  ·go_region_held3 (fun W=>((W.cell? ⟨gs,0,none⟩=some (.int .u8 37)∧W.cell? ⟨gs,1,none⟩=some (.int .i64 2)∧W.cell? ⟨gs,2,none⟩=some (.string ⟨#[43]⟩))∧RowKit.Hid (Below w5.heap.size w5 W))) (first | exact ⟨HS0.out,HBd⟩ | exact HKS.out _ _ hb (by assumption) | exact HKS.out _ _ ((Below.refl _ _).alloc (Nat.le_refl _) _) (by assumption)) (first | (go_at_call 54;(with_reducible refine (law18_name _ _).mono ?_);(rintro e w6 ⟨rfl,hb⟩);(try dsimp only)) | (go_at_call 30;(refine (CFA.out _ (‹(_∧_∧_)∧RowKit.Hid (Below w5.heap.size w5 (World.alloc _ _))›).2.out).mono ?_);(intro e w7 hp);(obtain ⟨va,vc,xs,rfl,hxs,hms,hb⟩:=hp.fx);(try dsimp only)))
   all_goals
    have hS:=‹(_∧_∧_)∧RowKit.Hid (Below w5.heap.size w5 w7)›
    exact ⟨w6.heap.size,va,vc,xs,by kernel_rfl,hxs,hms,hS.2.out⟩
  ·rintro _ w6 ⟨gl,va,vc,xs,rfl,hxs,hms,hb6⟩
   (try simp only [Act.put,List.setIfInBounds_toArray,List.set_cons_zero,List.set_cons_succ])
   rw [fx_all] at hxs
   obtain ⟨x0,x1,x2,x3,rfl⟩:∃ x0 x1 x2 x3,xs=[x0,x1,x2,x3]:=by
    have hl:=congrArg List.length hxs
    rw [List.length_map] at hl
    match xs,hl with
    | [a,b,c,d],_=>exact ⟨a,b,c,d,rfl⟩
   simp only [List.map_cons,List.map_nil,List.cons.injEq,and_true] at hxs
   obtain ⟨q0,q1,q2,q3⟩:=hxs
   obtain ⟨b,off,rfl,hvc,_,hcell⟩:=hms.at (Below.refl _ _) (by simp)
   have k0:=hcell 0 (by simp)
   have k2:=hcell 2 (by simp)
   have k3:=hcell 3 (by simp)
   simp only [List.getElem_cons_zero,List.getElem_cons_succ,q0,q2,q3] at k0 k2 k3
   obtain ⟨_,c01,c02⟩:=k0
   obtain ⟨c20,c21,_⟩:=k2
   obtain ⟨_,c31,_⟩:=k3
   have e0:BindRow w6 x0.2 x0.1.2.2:=hms.E x0 (by simp)
   rw [q0] at e0
   generalize x0.2=v0 at *
   obtain ⟨a0,n0,rfl,hn0⟩:∃ a c,v0=.slice a 2 c∧2≤c:=Row.shape e0
   have c01:w6.cell? ⟨b,off+1,none⟩=some (.int .i64 0):=c01
   have c02:w6.cell? ⟨b,off+2,none⟩=some (.slice a0 2 n0):=c02
   have c20:w6.cell? ⟨b,off+6,none⟩=some (.int .i64 1):=c20
   have c21:w6.cell? ⟨b,off+7,none⟩=some (.int .i64 2):=c21
   have c31:w6.cell? ⟨b,off+10,none⟩=some (.int .i64 4):=c31
   have HLB:RowKit.Hid (BindRow (w6.alloc (.cells #[.string ⟨#[120]⟩,.int .i64 1,.int .i64 4,.string ⟨#[121]⟩,.int .i64 4,.int .i64 5] 41)) (.slice (some ⟨w6.heap.size,0,none⟩) 2 2) [(⟨#[120]⟩,1,4),(⟨#[121]⟩,4,5)]):=Hd (lit_binds w6 [(⟨#[120]⟩,1,4),(⟨#[121]⟩,4,5)] (by decide))
   have hb7:Below w6.heap.size w6 (w6.alloc (.cells #[.string ⟨#[120]⟩,.int .i64 1,.int .i64 4,.string ⟨#[121]⟩,.int .i64 4,.int .i64 5] 41)):=(Below.refl _ _).alloc (Nat.le_refl _) _
   have CS:=Hd (ref_SameBinds _ _ (by decide) (by decide) _ _ _ (e0.below hb7) HLB.out)
   have HEND2:=Hd (HEND.out _ (bthen HB5.out (bthen hb6 hb7)))
   have hz:=HEND2.out.size
   clear hcell hms hb6 hb7 e0 q0 q1 q2 q3
   go_wp2_with fail
   refine CS.out.mono ?_
   rintro e w8 ⟨y,rfl,ht,hb8⟩
   obtain rfl:=ht.2 rfl
   have HX:=Hd (HQ.out w8 (HEND2.out.trans (hb8.mono (HGS.out ▸ hz))))
   clear hb8 CS ht
   go_wp2_with fail
   exact HX.out
end Go.Proofs.YtlkheofphafofaaGreatDoor
