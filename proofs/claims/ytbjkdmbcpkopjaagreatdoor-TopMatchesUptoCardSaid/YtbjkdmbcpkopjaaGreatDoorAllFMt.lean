/- Layer 18: find.All, walked. -/
import Derived.Test.YtbjkdmbcpkopjaaGreatDoorEachSMt
namespace Go.Proofs.YtbjkdmbcpkopjaaGreatDoor
set_option maxRecDepth 100000
set_option maxHeartbeats 32000000
set_option linter.all false
attribute [local irreducible] Calls
attribute [local irreducible] wpStill
attribute [local go_sem] Oper.semAt_some
open Go.RowKit Go.Shelf

theorem zTq (ar al:Option Addr) (nr cr nl cl:Nat) (w:World):Calls Tryz.prog 24 #[.slice ar nr cr,.slice al nl cl] w fun e w' =>
  e=.returned (.func (.func 32) #[] #[.pointer (some ⟨w.heap.size+1,0,none⟩),.pointer (some ⟨w.heap.size,0,none⟩)])∧w'=(w.alloc (.cells #[.slice ar nr cr] 22)).alloc (.cells #[.slice al nl cl] 25):=by
 go_enter Tryz.func24,Tryz.ntmps24;go_wp2_with fail;go_ret;exact ⟨rfl,rfl⟩
theorem zMk:(Tryz.prog.info? 44).map (fun i=>(i.zero,i.size,i.bytes))=some (some (.agg #[.int .i64 0,.int .i64 0,.slice none 0 0]),3,40):=by kernel_rfl
theorem zWt (p:Nat) (v:Value) (T:Array Value):(#[p].zip #[v]).foldl (fun t (p,v)=>t.setIfInBounds p v) T=T.setIfInBounds p v:=by simp
theorem zTr (w:World) (e:TypeId) (news:List Value):∀ (j:Nat) (u:Value),news[j]?=some u→(w.alloc (.cells news.toArray e)).cell? ((⟨w.heap.size,0,none⟩:Addr).add j)=some u:=by
 intro j u hj;have e1:(⟨w.heap.size,0,none⟩:Addr).add j=⟨w.heap.size,j,none⟩:=by simp [Addr.add];omega
 rw [e1,World.cell?_alloc_at _ _ _ _ rfl]
 simpa using hj
@[irreducible] def fallPost (rules:List RuleM) (l:List Prt) (w0:World) (e:Ending) (w':World):Prop :=
 Below w0.heap.size w0 w'∧∃ v xs,e=.returned (.tuple #[v,.int .i64 (yR rules l)])∧xs.map (·.1)=(if yR rules l=0 then allM rules l else [])∧w'.ownsRow w0.heap.size 44 3 v xs.length (mchsV xs)∧∀ x∈xs,MemM w0.heap.size x w'
def allJ (w:World) (bo:Nat) (pre:List MchX) (W:World):Prop :=
 ∃ v,W.heap[bo]?=some (.cells #[v] 34 (0,0))∧W.ownsRow w.heap.size 44 3 v pre.length (mchsV pre)∧(∀ x∈pre,MemM w.heap.size x W)∧Below w.heap.size w W
theorem MemM.ext {B:Nat} {x:MchX} {W W':World} (h:MemM B x W) (hb:Below W.heap.size W W'):MemM B x W':=zY h hb
theorem allJ.ext {w:World} {bo:Nat} {pre:List MchX} {W W':World} (h:allJ w bo pre W) (hb:Below W.heap.size W W'):allJ w bo pre W':=by
 obtain ⟨v,h1,h2,h3,h4⟩:=h;exact ⟨v,keeps hb h1,zY h2 hb,fun x hx=>(h3 x hx).ext hb,zC h4 hb⟩
theorem gR {W:World} {D:Nat} {r:Loop} (o:Obj) (h:W.heap[D]?=some (.loop r)) {k:Nat} {cs:Array Value} {T:TypeId} {fr:Nat×Nat} (hc:W.heap[k]?=some (.cells cs T fr)):(W.putObj D o).heap[k]?=W.heap[k]? :=
 World.putObj_heap_other (fun e=>by subst e;rw [h] at hc;cases hc)
theorem zJe {w W:World} {D:Nat} (o:Obj) (hD:w.heap.size≤D) (h:Below w.heap.size w W):Below w.heap.size w (W.putObj D o) :=
 ⟨h.os,h.tape,h.output,by have:=h.size;simp [World.putObj];exact this,fun k hk=>(World.putObj_heap_other (by omega)).trans (h.block k hk)⟩
theorem allJ.put {w:World} {bo:Nat} {pre:List MchX} {W:World} {D:Nat} {r:Loop} (o:Obj) (hD:w.heap.size≤D) (hl:W.heap[D]?=some (.loop r)) (h:allJ w bo pre W):allJ w bo pre (W.putObj D o):=by
 obtain ⟨v,h1,h2,h3,h4⟩:=h;exact ⟨v,(gR o hl h1).trans h1,vQ h2 (fun k cs fr hc=>gR o hl hc),fun x hx=>vQ (h3 x hx) (fun k cs fr hc=>gR o hl hc),zJe o hD h4⟩
theorem MemM.put {B:Nat} {x:MchX} {W:World} {D:Nat} {r:Loop} (o:Obj) (hl:W.heap[D]?=some (.loop r)) (h:MemM B x W):MemM B x (W.putObj D o):=vQ h (fun k cs fr hc=>gR o hl hc)
theorem allJ.step {w:World} {bo:Nat} {pre:List MchX} {x:MchX} {W:World} (hx:MemM w.heap.size x W) (hbo:w.heap.size≤bo) {v v':Value} {o:Obj} {w6:World} (h1:W.heap[bo]?=some (.cells #[v] 34 (0,0))) (h2:W.ownsRow w.heap.size 44 3 v pre.length (mchsV pre)) (h3:∀ x∈pre,MemM w.heap.size x W) (h4:Below w.heap.size w W)
  (ho:w6.ownsRow w.heap.size 44 3 v' (pre.length+1) (mchsV pre++mchV x)) (hg:(W.alloc o).grownBy w6 v.ownBlock) :
  allJ w bo (pre++[x]) (w6.setCell ⟨bo,0,none⟩ v')∧KpF w.heap.size none W (w6.setCell ⟨bo,0,none⟩ v')∧(∀ D,D<W.heap.size→(∀ cs T fr,W.heap[D]?≠some (.cells cs T fr))→(w6.setCell ⟨bo,0,none⟩ v').heap[D]?=W.heap[D]?)∧w6.cell? ⟨bo,0,none⟩=some v∧w6.frozen? ⟨bo,0,none⟩=false:=by
 have hs:=h4.size;have h2a:=h2.alloc o;have hrow:∀ k,v.ownBlock=some k→w.heap.size≤k∧∃ (cs:Array Value) (fr:Nat×Nat),W.heap[k]?=some (.cells cs 44 fr):=fun k hk=>by
  rcases h2.2 with ⟨hv,_⟩ | ⟨q,cap,cur,hv,hB,hh,_⟩
  ·rw [hv] at hk;simp [Value.ownBlock] at hk
  ·rw [hv] at hk;simp [Value.ownBlock] at hk;subst hk;exact ⟨hB,_,_,hh⟩
 have hkeep:∀ k,k<W.heap.size→v.ownBlock≠some k→w6.heap[k]?=W.heap[k]?:=fun k hk hne=>by
  rw [hg.block k (by simp;omega) (fun e=>hne e.symm),Below.heap_alloc _ _ _ hk]
 have hcell:∀ (k:Nat) (cs:Array Value) (T:TypeId) (fr:Nat×Nat),W.heap[k]?=some (.cells cs T fr)→T≠44→w6.heap[k]?=W.heap[k]?:=fun k cs T fr hc hT=>hkeep k (zG hc) (fun e=>by
  obtain ⟨_,cs',fr',h⟩:=hrow k e;rw [hc] at h;cases h;exact hT rfl)
 have hb6:w6.heap[bo]?=some (.cells #[v] 34 (0,0)):=(hcell _ _ _ _ h1 (by decide)).trans h1;have hset:∀ k,k≠bo→(w6.setCell ⟨bo,0,none⟩ v').heap[k]?=w6.heap[k]?:=fun k hk=>heap_setCell_other _ _ _ _ hk;have hmem:∀ y,MemM w.heap.size y W→MemM w.heap.size y (w6.setCell ⟨bo,0,none⟩ v'):=fun y hy=>vQ hy (fun k cs fr hc=>by
  rw [hset k (fun e=>by subst e;rw [h1] at hc;cases hc),hcell k _ _ _ hc (by decide)])
 refine ⟨⟨v',?_,?_,?_,?_⟩,⟨?_,?_,?_,?_,?_,?_⟩,?_,?_,?_⟩
 ·have:=heap_setCell_same w6 bo 0 _ _ v' hb6;exact this
 ·rw [lA,zQg];exact vQ ho (fun k cs fr hc=>hset k (fun e=>by subst e;rw [hb6] at hc;cases hc))
 ·intro y hy;rcases List.mem_append.1 hy with hy | hy
  ·exact hmem y (h3 y hy)
  ·obtain rfl:y=x:=by simpa using hy
   exact hmem y hx
 ·exact ((h4.alloc hs o).grown hg (by simp;omega) (fun q e=>(hrow q e).1)).setCell (p:=⟨bo,0,none⟩) hbo _
 ·exact hg.os
 ·exact hg.tape
 ·exact hg.output
 ·have:=hg.size;simp at this ⊢;omega
 ·intro k hk hk2;rw [hset k (by omega),hkeep k hk2 (fun e=>by have:=(hrow k e).1;omega)]
 ·intro k cs T fr hc hT1 hT2 _;rw [hset k (fun e=>by subst e;rw [h1] at hc;cases hc;exact hT2 rfl),hcell k _ _ _ hc hT1]
 ·intro D hD hno;rw [hset D (fun e=>by subst e;exact hno _ _ _ h1),hkeep D hD (fun e=>by obtain ⟨_,cs,fr,h⟩:=hrow D e;exact hno _ _ _ h)]
 ·simp only [World.cell?,hb6];rfl
 ·simp [World.frozen?,hb6]
theorem zTs (args:Array Value) (w:World):(callFunc 32 args).run Tryz.prog w=.ok (.enter 32 args) w:=jP Tryz.func32 (by kernel_rfl) rfl args w
theorem zWu (rs:List RuleX) (hs:∀ x∈rs,SmallR x.1) (l:List Prt) (hl:SmallL l) (vr vl:Value) (w:World) (hT:Tabs w) (hM:MaxC w) (hr:xM w vr rs) (hlr:zF w vl l) :
  Calls Tryz.prog 10 #[vr,vl] w (fallPost (rs.map (·.1)) l w):=by
 have HQ:Hid (∀ z v xs w',yR (rs.map (·.1)) l=z→xs.map (·.1)=(if z=0 then allM (rs.map (·.1)) l else [])→Below w.heap.size w w'→w'.ownsRow w.heap.size 44 3 v xs.length (mchsV xs)→(∀ x∈xs,MemM w.heap.size x w')→fallPost (rs.map (·.1)) l w (.returned (.tuple #[v,.int .i64 z])) w'):=Hd fun z v xs w' h1 h2 h3 h4 h5=>by
  subst h1;unfold fallPost;exact ⟨h3,v,xs,rfl,h2,h4,h5⟩
 generalize fallPost (rs.map (·.1)) l w=Q at *;obtain ⟨ar,cpr,rfl,hcr⟩:=hr.shape;obtain ⟨al,cpl,rfl,hcl⟩:=hlr.slice;have CC:=Hd (zQj rs hs l hl.1 _ _ w hT hM hr hlr);have HS:=Hd hs;have HL:=Hd hl;have HT:=Hd hT;have HMX:=Hd hM;have HR:=Hd hr;have HLR:=Hd hlr;have hll:=hl.1;clear hs hl hT hM hr hlr;refine (callsIn_wide (n:=3)).1 ?_;refine callsIn_of_wp_marks Tryz.func10 rfl trivial ?_ rfl;simp only [Tryz.ntmps10,List.size_toArray,lC,lN,Nat.reduceAdd,Nat.reduceSub,Array.replicate_succ,Array.replicate_zero,List.push_toArray,List.append_toArray,List.nil_append,List.cons_append]
 gi_wp2_with (refine ⟨trivial,?_⟩;gi_at_call 23;fail)
 refine ⟨trivial,(callsIn_wide.2 CC.out).mono ?_⟩;rintro e w1 ⟨rfl,hb1⟩;have HB1:=Hd hb1;clear hb1 CC;by_cases hz:yR (rs.map (·.1)) l=0
 case neg =>
  have HX:=Hd (HQ.out _ (.slice none 0 0) [] w1 rfl (by rw [iN hz];rfl) HB1.out (World.ownsRow_nil _ _ _ _) (fun x hx=>by cases hx));have g1:(yR (rs.map (·.1)) l != 0)=true:=by rw [bne_iff_ne];exact hz
  clear hz;generalize yR (rs.map (·.1)) l=z at *
  gi_wp2
  refine ⟨.tuple #[.slice none 0 0,.int .i64 z],?_,HX.out⟩;simp [results,Tryz.f10,go_sem]
 have HZ:=Hd hz;rw [hz];clear hz
 gi_wp2_with (refine ⟨trivial,?_⟩;gi_at_call 24;fail)
 refine ⟨trivial,(callsIn_wide.2 (zTq _ _ _ _ _ _ _)).mono ?_⟩;rintro e w3 ⟨rfl,rfl⟩;have HB2:Hid (Below w.heap.size w (w1.alloc (.cells #[.slice none 0 0] 34))):=Hd (HB1.out.alloc HB1.out.size _);have HO2:Hid ((w1.alloc (.cells #[.slice none 0 0] 34)).heap[w1.heap.size]?=some (.cells #[.slice none 0 0] 34 (0,0))):=Hd (heap_alloc_new _ _);have HBO:Hid (w.heap.size≤w1.heap.size):=Hd HB1.out.size;generalize w1.alloc (.cells #[.slice none 0 0] 34)=w2 at *;generalize w1.heap.size=bo at *
 gi_wp2
 have HB3:Hid (Below w.heap.size w ((w2.alloc (.cells #[.slice ar rs.length cpr] 22)).alloc (.cells #[.slice al l.length cpl] 25))):=Hd ((HB2.out.alloc HB2.out.size _).alloc (by have:=HB2.out.size;simp;omega) _);have HO3:Hid (((w2.alloc (.cells #[.slice ar rs.length cpr] 22)).alloc (.cells #[.slice al l.length cpl] 25)).heap[bo]?=some (.cells #[.slice none 0 0] 34 (0,0))):=Hd (by
  have:=zG HO2.out;rw [Below.heap_alloc _ _ _ (by simp;omega),Below.heap_alloc _ _ _ (by omega)];exact HO2.out)
 have HR3:Hid (((w2.alloc (.cells #[.slice ar rs.length cpr] 22)).alloc (.cells #[.slice al l.length cpl] 25)).heap[w2.heap.size]?=some (.cells #[.slice ar rs.length cpr] 22 (0,0))):=Hd (by
  rw [Below.heap_alloc _ _ _ (by simp)];exact heap_alloc_new _ _)
 have HL3:Hid (((w2.alloc (.cells #[.slice ar rs.length cpr] 22)).alloc (.cells #[.slice al l.length cpl] 25)).heap[w2.heap.size+1]?=some (.cells #[.slice al l.length cpl] 25 (0,0))):=Hd (by
  have:=heap_alloc_new (w2.alloc (.cells #[.slice ar rs.length cpr] 22)) (.cells #[.slice al l.length cpl] 25);rw [World.size_alloc] at this;exact this)
 have HCR:Hid (w.heap.size≤w2.heap.size):=Hd HB2.out.size;generalize (w2.alloc (.cells #[.slice ar rs.length cpr] 22)).alloc (.cells #[.slice al l.length cpl] 25)=w3 at *;generalize w2.heap.size=cr at *;clear HB2 HO2;have hfz:=zCd.1 HZ.out;have HH:=Hd (show (∀ x∈rs,ruleZ x.1=0)∧rs.length≤32∧zV l=true from ⟨fun x hx=>hfz.2.2 x.1 (List.mem_map_of_mem hx),by have:=hfz.2.1;rw [List.length_map] at this;exact this,hfz.1⟩);clear hfz;have hN:l.length*rs.length≤1048576*32:=Nat.mul_le_mul hll HH.out.2.1;refine zVl (enc:=encM) (gf:=32) (lb:=#[.pointer (some ⟨cr+1,0,none⟩),.pointer (some ⟨cr,0,none⟩)]) (Mem:=MemR w.heap.size rs.length) (Kp:=KpF w.heap.size none) (S:=fun xs=>xs.map (·.1)=allM (rs.map (·.1)) l) (N:=l.length*rs.length) rfl zTs (fun _=>rfl) (allJ w bo)
  (fun x a' W=>∃ B,W.heap[B]?=some (.cells #[.int .i64 (x.1.1:Int),.int .i64 (x.1.2.1:Int),x.2] 44 (0,0))∧a'={ tmps:=#[.slice ar rs.length cpr,.slice al l.length cpl,undef,undef,.slice none 0 0,.int .i64 0,.int .i64 0,.pointer (some ⟨bo,0,none⟩),.pointer (some ⟨B,0,none⟩),.slice ar rs.length cpr,.slice al l.length cpl,.int .i64 0,.int .i64 0,.bool false,undef,.slice ar rs.length cpr,.slice al l.length cpl,.func (.func 32) #[] #[.pointer (some ⟨cr+1,0,none⟩),.pointer (some ⟨cr,0,none⟩)],.agg #[.int .i64 (x.1.1:Int),.int .i64 (x.1.2.1:Int),x.2],undef,undef,undef,undef,undef],defers:=[] })
  (fun o=>yAt rs HS.out HH.out.1 HH.out.2.1 l HH.out.2.2 HL.out _ _ w _ HT.out HMX.out HR.out HLR.out w.heap.size (cr+1) cr none ⟨(HB3.out.alloc HB3.out.size _).alloc (by have:=HB3.out.size;simp;omega) _,?eL,?eR,⟨by have:=HCR.out;omega,HCR.out,nR _⟩,fun k e=>by cases e⟩ (by have:=HB3.out.size;simp;omega))
  (fun pre W W' h hb=>h.ext hb) (fun x W W' h hb=>⟨h.1.ext hb,h.2⟩) (fun pre W o r hl h=>h.put o (by have:=HB3.out.size;omega) hl) (fun x W o r hl h=>⟨h.1.put o hl,h.2⟩)
  (fun x a' W o r hl h=>by obtain ⟨B,h1,h2⟩:=h;exact ⟨B,(gR o hl h1).trans h1,h2⟩)
  (fun h k=>h.trans k) (fun W W' h=>KpF.of_below h) (fun W o r hl=>KpF.put o (by have:=HB3.out.size;omega) hl)
  ⟨.slice none 0 0,HO3.out,World.ownsRow_nil _ _ _ _,(fun x hx=>by cases hx),HB3.out⟩ ?assign ?body ?done
 case eL=>rw [Below.heap_alloc _ _ _ (by have:=zG HL3.out;simp;omega),Below.heap_alloc _ _ _ (zG HL3.out)];exact HL3.out
 case eR=>rw [Below.heap_alloc _ _ _ (by have:=zG HR3.out;simp;omega),Below.heap_alloc _ _ _ (zG HR3.out)];exact HR3.out
 case assign =>
  intro lp x W K hm hK;replace hm:=hm.1;obtain ⟨⟨xr,xi,xb⟩,xv⟩:=x;obtain ⟨xa,xn,xc,rfl⟩:∃ a n c,xv=.slice a n c:=zO hm;clear hm;unfold encM;rw [zWt];change Code.wpIn (Fence.wide.inRound lp) 2 Tryz.prog _ _ { tmps:=#[.slice ar rs.length cpr,.slice al l.length cpl,undef,undef,.slice none 0 0,.int .i64 0,.int .i64 0,.pointer (some ⟨bo,0,none⟩),undef,.slice ar rs.length cpr,.slice al l.length cpl,.int .i64 0,.int .i64 0,.bool false,undef,.slice ar rs.length cpr,.slice al l.length cpl,.func (.func 32) #[] #[.pointer (some ⟨cr+1,0,none⟩),.pointer (some ⟨cr,0,none⟩)],.agg #[.int .i64 (xr:Int),.int .i64 (xi:Int),.slice xa xn xc],undef,undef,undef,undef,undef],defers:=[] } W;have HX:=Hd (hK _ _ ((bR _ W).alloc (nR _) (.cells #[.int .i64 (xr:Int),.int .i64 (xi:Int),.slice xa xn xc] 44)) ⟨W.heap.size,heap_alloc_new _ _,rfl⟩);clear hK
  gi_wp2
  exact HX.out
 case body =>
  rintro lp pre x a' W hj hm ⟨B,hB,rfl⟩ hlen hsz hl hd;replace hm:=hm.1;obtain ⟨⟨xr,xi,xb⟩,xv⟩:=x;obtain ⟨xa,xn,xc,rfl⟩:∃ a n c,xv=.slice a n c:=zO hm;simp only [] at hB;obtain ⟨v,h1,h2,h3,h4⟩:=hj;have HM:=Hd hm;have H1:=Hd h1;have H2:=Hd h2;have H3:=Hd h3;have H4:=Hd h4;have HLD:=Hd hl;have HDD:=Hd hd;obtain ⟨va,vn,vc,rfl⟩:=zO h2;have c1:W.cell? ⟨bo,0,none⟩=some (.slice va vn vc):=by simp [World.cell?,h1]
  have c2:W.cell? ⟨B,0,none⟩=some (.int .i64 (xr:Int))∧W.cell? ⟨B,1,none⟩=some (.int .i64 (xi:Int))∧W.cell? ⟨B,2,none⟩=some (.slice xa xn xc):=by simp [World.cell?,hB]
  obtain ⟨c2,c3,c4⟩:=c2;obtain ⟨i0,hi,hz0,hz1,hz2⟩:=info_parts zMk;have h4s:=h4.size;clear hm h1 h2 h3 h4 hl hd hB;simp only []
  gi_wp2_with (gi_at_builtin;refine wpListIn_append_own _ rfl _ _ 34 rfl w.heap.size 44 i0 _ 3 40 Tryz.underlying34 hi hz0 hz1 hz2 rfl (by decide) _ _ _ rfl (H2.out.alloc _) ⟨W.heap.size,0,none⟩ 1 1 [.int .i64 (xr:Int),.int .i64 (xi:Int),.slice xa xn xc] rfl rfl (zTr _ _ _) (by intro u hu;simp at hu;rcases hu with rfl | rfl | rfl <;> rfl) (by unfold maxLen;omega) (by omega) (by simp;omega) ?_;intro v' w6 hown hgr _;obtain ⟨va',vn',vc',rfl⟩:=zO hown;obtain ⟨g1,g2,g3,g4,g5⟩:=allJ.step (x:=((xr,xi,xb),.slice xa xn xc)) HM.out HBO.out H1.out H2.out H3.out H4.out hown hgr)
  have HX:Hid (roundM (allJ w bo) (KpF w.heap.size none) w3.heap.size (pre++[((xr,xi,xb),.slice xa xn xc)]) W   .normal { tmps:=#[],defers:=[] } (w6.setCell ⟨bo,0,none⟩ (.slice va' vn' vc'))):=Hd
   ⟨g3 _ (by omega) (fun cs T fr e=>by rw [HDD.out] at e;cases e),g3 _ (by omega) (fun cs T fr e=>by obtain ⟨r,hr⟩:=HLD.out;rw [hr] at e;cases e),g2,g1⟩
  clear hown hgr g1 g2 g3
  gi_wp2
  exact HX.out
 case done =>
  rintro xs W hS ⟨v,h1,h2,h3,h4⟩ hd;obtain ⟨va,vn,vc,rfl⟩:=zO h2;have c1:W.cell? ⟨bo,0,none⟩=some (.slice va vn vc):=by simp [World.cell?,h1]
  have hpk:∀ (k:Nat) (cs:Array Value) (T:TypeId) (fr:Nat×Nat),W.heap[k]?=some (.cells cs T fr)→(W.putObj w3.heap.size (.deferred none)).heap[k]?=W.heap[k]?:=fun k cs T fr hc=>World.putObj_heap_other (fun e=>by subst e;rw [hd] at hc;cases hc)
  have HX:=Hd (HQ.out 0 (.slice va vn vc) xs (W.putObj w3.heap.size (.deferred none)) HZ.out (by rw [iP rfl];exact hS) (zJe _ HB3.out.size h4) (vQ h2 (fun k cs fr hc=>hpk k cs _ fr hc)) (fun x hx=>vQ (h3 x hx) (fun k cs fr hc=>hpk k cs _ fr hc)));have HD:=Hd hd;clear h1 h2 h3 h4 hpk hS hd
  gi_wp2
  refine ⟨by simp,.inl ⟨_,_,rfl,run_takeDeferred HD.out,?_⟩⟩;refine ⟨.tuple #[.slice va vn vc,.int .i64 0],?_,HX.out⟩;simp [results,Tryz.f10,go_sem]
end Go.Proofs.YtbjkdmbcpkopjaaGreatDoor
