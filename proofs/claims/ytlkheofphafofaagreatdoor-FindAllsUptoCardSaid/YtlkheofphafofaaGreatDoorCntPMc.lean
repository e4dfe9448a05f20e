/- Layer 18 in plain Lean: how many places each rule has. -/
import Derived.Test.YtlkheofphafofaaGreatDoorRuleVMc
import Derived.Test.YtlkheofphafofaaGreatDoorRaWMc
import Derived.Test.YtlkheofphafofaaGreatDoorAllFMc
import Derived.Test.YtlkheofphafofaaGreatDoorEachSMc
import Derived.Test.YtlkheofphafofaaGreatDoorMapSMc
import Derived.Test.YtlkheofphafofaaGreatDoorAtSMc
namespace Go.Proofs.YtlkheofphafofaaGreatDoor
set_option linter.all false
open Go.RowKit

def cntL (n:Nat) (ms:List Mch):List Nat:=(List.range n).map fun k=>ms.countP fun m=>m.1 == k
theorem cntL_len (n:Nat) (ms:List Mch):(cntL n ms).length=n:=by unfold cntL;simp
theorem cntL_nil (n:Nat):cntL n []=List.replicate n 0:=by
 unfold cntL
 apply List.ext_getElem
 ·simp
 ·intro i h1 h2;simp
theorem cntL_get {n i:Nat} (ms:List Mch) (h:i<n):(cntL n ms)[i]'(by rw [cntL_len];exact h)=ms.countP fun m=>m.1 == i:=by
 unfold cntL
 simp
theorem cntL_le {i:Nat} (ms:List Mch):(ms.countP fun m=>m.1 == i)≤ms.length:=List.countP_le_length
theorem cntL_snoc {n:Nat} (ms:List Mch) (x:Mch):cntL n (ms++[x])=(cntL n ms).set x.1 ((ms.countP fun m=>m.1 == x.1)+1):=by
 apply List.ext_getElem
 ·rw [List.length_set,cntL_len,cntL_len]
 ·intro i h1 h2
  rw [cntL_len] at h1
  rw [cntL_get _ h1,List.getElem_set,List.countP_append]
  by_cases e:x.1=i
  ·subst e
   simp
  ·rw [if_neg e,cntL_get _ h1]
   simp [e]
@[irreducible] def cntPost (rules:List RuleM) (l:List Prt) (w0:World) (e:Ending) (w':World):Prop :=
 Below w0.heap.size w0 w'∧∃ v,e=.returned (.tuple #[v,.int .i64 (findErr rules l)])∧∃ ns:List Nat,ns=(if findErr rules l=0 then cntL rules.length (allM rules l) else [])∧w'.ownsRow w0.heap.size 3 1 v ns.length (natV ns)
theorem LensB.owns {w:World} {B gl:Nat} {ns:List Nat} (h:LensB w gl ns) (hB:B≤gl) (hn:ns.length≤1048576):w.ownsRow B 3 1 (.slice (some ⟨gl,0,none⟩) ns.length ns.length) ns.length (natV ns):=by
 unfold LensB at h
 refine ⟨by unfold natV;simp,Or.inr ⟨gl,ns.length,(natV ns).toArray,rfl,hB,h,Nat.le_refl _,by unfold maxLen;omega,by unfold natV;simp,?_⟩⟩
 show List.take (ns.length*1) (natV ns)=natV ns
 rw [Nat.mul_one]
 exact List.take_of_length_le (by unfold natV;simp)
end Go.Proofs.YtlkheofphafofaaGreatDoor
namespace Go.Proofs.YtlkheofphafofaaGreatDoor
set_option linter.all false
attribute [local irreducible] Calls
attribute [local irreducible] wpStill
attribute [local go_sem] Oper.semAt_some
open Go.RowKit Go.Shelf

def cntJ (w:World) (bo gc n:Nat) (pre:List MchX) (W:World):Prop :=
 W.heap[bo]?=some (.cells #[.slice (some ⟨gc,0,none⟩) n n] 49 (0,0))∧LensB W gc (cntL n (pre.map (·.1)))∧Below w.heap.size w W
theorem cntJ.ext {w:World} {bo gc n:Nat} {pre:List MchX} {W W':World} (h:cntJ w bo gc n pre W) (hb:Below W.heap.size W W'):cntJ w bo gc n pre W' :=
 ⟨keeps hb h.1,keeps hb h.2.1,bthen h.2.2 hb⟩
theorem cntJ.put {w:World} {bo gc n:Nat} {pre:List MchX} {W:World} {D:Nat} {r:Loop} (o:Obj) (hD:w.heap.size≤D) (hl:W.heap[D]?=some (.loop r)) (h:cntJ w bo gc n pre W):cntJ w bo gc n pre (W.putObj D o):=by
 obtain ⟨h1,h2,h3⟩:=h
 exact ⟨(put_keeps o hl h1).trans h1,(put_keeps o hl h2).trans h2,put_below o hD h3⟩
theorem cntJ.step {w:World} {bo gc n:Nat} {pre:List MchX} {x:MchX} {W:World} (h:cntJ w bo gc n pre W) (hx:x.1.1<n) (hgc:w.heap.size≤gc) (hne:bo≠gc) {z:Nat} (hz:z=(pre.map (·.1)).countP (fun m=>m.1 == x.1.1)) :
  cntJ w bo gc n (pre++[x]) (W.setCell ⟨gc,x.1.1,none⟩ (.int .i64 ((z+1:Nat):Int)))∧KpF w.heap.size (some gc) W (W.setCell ⟨gc,x.1.1,none⟩ (.int .i64 ((z+1:Nat):Int)))∧∀ D,D≠gc→(W.setCell ⟨gc,x.1.1,none⟩ (.int .i64 ((z+1:Nat):Int))).heap[D]?=W.heap[D]?:=by
 obtain ⟨h1,h2,h3⟩:=h
 have hset:∀ D,D≠gc→(W.setCell ⟨gc,x.1.1,none⟩ (.int .i64 ((z+1:Nat):Int))).heap[D]?=W.heap[D]?:=fun D hD=>heap_setCell_other _ _ _ _ hD
 have h2s:=h2.set x.1.1 (z+1)
 refine ⟨⟨(hset bo hne).trans h1,?_,h3.setCell (p:=⟨gc,x.1.1,none⟩) hgc _⟩,⟨rfl,rfl,rfl,by simp,fun k hk _=>hset k (by omega),fun k cs T fr hc _ _ hk=>hset k (fun e=>hk (by rw [e]))⟩,hset⟩
 rw [List.map_append,show List.map (fun (x:MchX)=>x.1) [x]=[x.1] from rfl,cntL_snoc,← hz]
 exact h2s
set_option maxRecDepth 100000 in
set_option maxHeartbeats 8000000 in
theorem find_Count (rs:List RuleX) (hs:∀ x∈rs,SmallR x.1) (l:List Prt) (hl:SmallL l) (vr vl:Value) (w:World) (hT:Tabs w) (hM:MaxC w) (hr:RulesIn w vr rs) (hlr:PartRow w vl l) :
  Calls Tryz.prog 32 #[vr,vl] w (cntPost (rs.map (·.1)) l w):=by
 have HQ:RowKit.Hid (∀ z v ns w',findErr (rs.map (·.1)) l=z→ns=(if z=0 then cntL rs.length (allM (rs.map (·.1)) l) else [])→Below w.heap.size w w'→w'.ownsRow w.heap.size 3 1 v ns.length (natV ns)→cntPost (rs.map (·.1)) l w (.returned (.tuple #[v,.int .i64 z])) w'):=Hd fun z v ns w' h1 h2 h3 h4=>by
  subst h1;unfold cntPost;exact ⟨h3,v,rfl,ns,by rw [List.length_map];exact h2,h4⟩
 generalize cntPost (rs.map (·.1)) l w=Q at *
 obtain ⟨ar,cpr,rfl,hcr⟩:=hr.shape
 obtain ⟨al,cpl,rfl,hcl⟩:=hlr.slice
 have CC:=Hd (find_check rs hs l hl.1 _ _ w hT hM hr hlr)
 have HS:=Hd hs
 have HL:=Hd hl
 have HT:=Hd hT
 have HMX:=Hd hM
 have HR:=Hd hr
 have HLR:=Hd hlr
 have hll:=hl.1
 clear hs hl hT hM hr hlr
 refine (callsIn_wide (n:=3)).1 ?_
 refine callsIn_of_wp_marks Tryz.func32 rfl trivial ?_ rfl
 simp only [Tryz.ntmps32,List.size_toArray,List.length_cons,List.length_nil,Nat.reduceAdd,Nat.reduceSub,Array.replicate_succ,Array.replicate_zero,List.push_toArray,List.append_toArray,List.nil_append,List.cons_append]
 gi_wp2_with (refine ⟨trivial,?_⟩;gi_at_call 55;fail)
 refine ⟨trivial,(callsIn_wide.2 CC.out).mono ?_⟩
 rintro e w1 ⟨rfl,hb1⟩
 have HB1:=Hd hb1
 clear hb1 CC
 by_cases hz:findErr (rs.map (·.1)) l=0
 case neg =>
  have HX:=Hd (HQ.out _ (.slice none 0 0) [] w1 rfl (by rw [if_neg hz]) HB1.out (World.ownsRow_nil _ _ _ _))
  have g1:(findErr (rs.map (·.1)) l != 0)=true:=by rw [bne_iff_ne];exact hz
  clear hz
  generalize findErr (rs.map (·.1)) l=z at *
  gi_wp2
  refine ⟨.tuple #[.slice none 0 0,.int .i64 z],?_,HX.out⟩
  simp [results,Tryz.f32,go_sem]
 have HZ:=Hd hz
 rw [hz]
 have hfz:=findErr_zero.1 hz
 have HH:=Hd (show (∀ x∈rs,ruleZ x.1=0)∧rs.length≤32∧wellB l=true from ⟨fun x hx=>hfz.2.2 x.1 (List.mem_map_of_mem hx),by have:=hfz.2.1;rw [List.length_map] at this;exact this,hfz.1⟩)
 have hr32:=HH.out.2.1
 clear hz hfz
 have hmk:=Tmake_ints rs.length (by omega)
 gi_wp2_with (refine ⟨trivial,?_⟩;gi_at_call 56;fail)
 refine ⟨trivial,(callsIn_wide.2 (find_each _ _ _ _ _ _ _)).mono ?_⟩
 rintro e w3 ⟨rfl,rfl⟩
 have HB2:RowKit.Hid (Below w.heap.size w ((w1.alloc (.cells (Array.replicate rs.length (.int .i64 0)) 3)).alloc (.cells #[.slice (some ⟨w1.heap.size,0,none⟩) rs.length rs.length] 49))):=Hd ((HB1.out.alloc HB1.out.size _).alloc (by have:=HB1.out.size;simp;omega) _)
 have HG2:RowKit.Hid (LensB ((w1.alloc (.cells (Array.replicate rs.length (.int .i64 0)) 3)).alloc (.cells #[.slice (some ⟨w1.heap.size,0,none⟩) rs.length rs.length] 49)) w1.heap.size (cntL rs.length [])):=Hd (by
  unfold LensB
  rw [Below.heap_alloc _ _ _ (by simp),heap_alloc_new,cntL_nil]
  unfold natV
  simp)
 have HO2:RowKit.Hid (((w1.alloc (.cells (Array.replicate rs.length (.int .i64 0)) 3)).alloc (.cells #[.slice (some ⟨w1.heap.size,0,none⟩) rs.length rs.length] 49)).heap[w1.heap.size+1]?=some (.cells #[.slice (some ⟨w1.heap.size,0,none⟩) rs.length rs.length] 49 (0,0))):=Hd (by
  have:=heap_alloc_new (w1.alloc (.cells (Array.replicate rs.length (.int .i64 0)) 3)) (.cells #[.slice (some ⟨w1.heap.size,0,none⟩) rs.length rs.length] 49)
  rw [World.size_alloc] at this;exact this)
 have HBO:RowKit.Hid (w.heap.size≤w1.heap.size):=Hd HB1.out.size
 clear hmk
 generalize (w1.alloc (.cells (Array.replicate rs.length (.int .i64 0)) 3)).alloc (.cells #[.slice (some ⟨w1.heap.size,0,none⟩) rs.length rs.length] 49)=w2 at *
 generalize w1.heap.size=gc at *
 gi_wp2
 have HB3:RowKit.Hid (Below w.heap.size w ((w2.alloc (.cells #[.slice ar rs.length cpr] 34)).alloc (.cells #[.slice al l.length cpl] 23))):=Hd ((HB2.out.alloc HB2.out.size _).alloc (by have:=HB2.out.size;simp;omega) _)
 have HO3:RowKit.Hid (((w2.alloc (.cells #[.slice ar rs.length cpr] 34)).alloc (.cells #[.slice al l.length cpl] 23)).heap[gc+1]?=some (.cells #[.slice (some ⟨gc,0,none⟩) rs.length rs.length] 49 (0,0))):=Hd (by
  have:=keeps_lt HO2.out
  rw [Below.heap_alloc _ _ _ (by simp;omega),Below.heap_alloc _ _ _ (by omega)];exact HO2.out)
 have HG3:RowKit.Hid (LensB ((w2.alloc (.cells #[.slice ar rs.length cpr] 34)).alloc (.cells #[.slice al l.length cpl] 23)) gc (cntL rs.length [])):=Hd (by
  have h:=HG2.out
  unfold LensB at h ⊢
  have:=keeps_lt h
  rw [Below.heap_alloc _ _ _ (by simp;omega),Below.heap_alloc _ _ _ (by omega)];exact h)
 have HR3:RowKit.Hid (((w2.alloc (.cells #[.slice ar rs.length cpr] 34)).alloc (.cells #[.slice al l.length cpl] 23)).heap[w2.heap.size]?=some (.cells #[.slice ar rs.length cpr] 34 (0,0))):=Hd (by
  rw [Below.heap_alloc _ _ _ (by simp)];exact heap_alloc_new _ _)
 have HL3:RowKit.Hid (((w2.alloc (.cells #[.slice ar rs.length cpr] 34)).alloc (.cells #[.slice al l.length cpl] 23)).heap[w2.heap.size+1]?=some (.cells #[.slice al l.length cpl] 23 (0,0))):=Hd (by
  have:=heap_alloc_new (w2.alloc (.cells #[.slice ar rs.length cpr] 34)) (.cells #[.slice al l.length cpl] 23)
  rw [World.size_alloc] at this;exact this)
 have HCR:RowKit.Hid (w.heap.size≤w2.heap.size∧gc<w2.heap.size):=Hd ⟨HB2.out.size,keeps_lt HG2.out⟩
 generalize (w2.alloc (.cells #[.slice ar rs.length cpr] 34)).alloc (.cells #[.slice al l.length cpl] 23)=w3 at *
 generalize w2.heap.size=cr at *
 clear HB2 HO2 HG2
 have hN:l.length*rs.length≤1048576*32:=Nat.mul_le_mul hll HH.out.2.1
 refine range_mem (enc:=encM) (gf:=84) (lb:=#[.pointer (some ⟨cr+1,0,none⟩),.pointer (some ⟨cr,0,none⟩)]) (Mem:=MemR w.heap.size rs.length) (Kp:=KpF w.heap.size (some gc)) (S:=fun xs=>xs.map (·.1)=allM (rs.map (·.1)) l) (N:=l.length*rs.length) rfl all_enter (fun _=>rfl) (cntJ w (gc+1) gc rs.length)
  (fun x a' W=>∃ B,W.heap[B]?=some (.cells #[.int .i64 (x.1.1:Int),.int .i64 (x.1.2.1:Int),x.2] 95 (0,0))∧a'={ tmps:=#[.slice ar rs.length cpr,.slice al l.length cpl,undef,undef,.slice none 0 0,.int .i64 0,.int .i64 0,.pointer (some ⟨gc+1,0,none⟩),.pointer (some ⟨B,0,none⟩),.slice ar rs.length cpr,.slice al l.length cpl,.int .i64 0,.int .i64 0,.bool false,undef,.slice ar rs.length cpr,.int .i64 (rs.length:Int),.slice (some ⟨gc,0,none⟩) rs.length rs.length,.slice ar rs.length cpr,.slice al l.length cpl,.func (.func 84) #[] #[.pointer (some ⟨cr+1,0,none⟩),.pointer (some ⟨cr,0,none⟩)],.agg #[.int .i64 (x.1.1:Int),.int .i64 (x.1.2.1:Int),x.2],undef,undef,undef,undef,undef,undef,undef,undef],defers:=[] })
  (fun o=>each_is rs HS.out HH.out.1 HH.out.2.1 l HH.out.2.2 HL.out _ _ w _ HT.out HMX.out HR.out HLR.out cr (cr+1) cr (some gc) ⟨(HB3.out.alloc HB3.out.size _).alloc (by have:=HB3.out.size;simp;omega) _,?eL,?eR,⟨by omega,Nat.le_refl _,HCR.out.1⟩,fun k e=>by have:=Option.some.inj e;have:=HCR.out.2;omega⟩ ?eM)
  (fun pre W W' h hb=>h.ext hb) (fun x W W' h hb=>⟨h.1.ext hb,h.2⟩) (fun pre W o r hl h=>h.put o (by have:=HB3.out.size;omega) hl) (fun x W o r hl h=>⟨h.1.put o hl,h.2⟩)
  (fun x a' W o r hl h=>by obtain ⟨B,h1,h2⟩:=h;exact ⟨B,(put_keeps o hl h1).trans h1,h2⟩)
  (fun h k=>h.trans k) (fun W W' h=>KpF.of_below h) (fun W o r hl=>KpF.put o (by have:=HB3.out.size;omega) hl)
  ⟨HO3.out,HG3.out,HB3.out⟩ ?assign ?body ?done
 case eL=>rw [Below.heap_alloc _ _ _ (by have:=keeps_lt HL3.out;simp;omega),Below.heap_alloc _ _ _ (keeps_lt HL3.out)];exact HL3.out
 case eR=>rw [Below.heap_alloc _ _ _ (by have:=keeps_lt HR3.out;simp;omega),Below.heap_alloc _ _ _ (keeps_lt HR3.out)];exact HR3.out
 case eM=>have:=keeps_lt HR3.out;simp;omega
 case assign =>
  intro lp x W K hm hK
  replace hm:=hm.1
  obtain ⟨⟨xr,xi,xb⟩,xv⟩:=x
  obtain ⟨xa,xn,xc,rfl⟩:∃ a n c,xv=.slice a n c:=owns_slice hm
  clear hm
  unfold encM
  rw [fold_one]
  change Code.wpIn (Fence.wide.inRound lp) 2 Tryz.prog _ _ { tmps:=#[.slice ar rs.length cpr,.slice al l.length cpl,undef,undef,.slice none 0 0,.int .i64 0,.int .i64 0,.pointer (some ⟨gc+1,0,none⟩),undef,.slice ar rs.length cpr,.slice al l.length cpl,.int .i64 0,.int .i64 0,.bool false,undef,.slice ar rs.length cpr,.int .i64 (rs.length:Int),.slice (some ⟨gc,0,none⟩) rs.length rs.length,.slice ar rs.length cpr,.slice al l.length cpl,.func (.func 84) #[] #[.pointer (some ⟨cr+1,0,none⟩),.pointer (some ⟨cr,0,none⟩)],.agg #[.int .i64 (xr:Int),.int .i64 (xi:Int),.slice xa xn xc],undef,undef,undef,undef,undef,undef,undef,undef],defers:=[] } W
  have HX:=Hd (hK _ _ ((Below.refl _ W).alloc (Nat.le_refl _) (.cells #[.int .i64 (xr:Int),.int .i64 (xi:Int),.slice xa xn xc] 95)) ⟨W.heap.size,heap_alloc_new _ _,rfl⟩)
  clear hK
  gi_wp2
  exact HX.out
 case body =>
  rintro lp pre x a' W hj hm ⟨B,hB,rfl⟩ hlen hsz hl hd
  have hxn:=hm.2
  replace hm:=hm.1
  obtain ⟨⟨xr,xi,xb⟩,xv⟩:=x
  simp only [] at hB hxn
  have hj':=hj
  obtain ⟨h1,h2,h3⟩:=hj'
  have HGC:RowKit.Hid (gc+1≠gc):=Hd (by omega)
  obtain ⟨s1,s2,s3⟩:=cntJ.step (x:=((xr,xi,xb),xv)) hj hxn HBO.out HGC.out rfl
  have hk:xr<(cntL rs.length (pre.map (·.1))).length:=by rw [cntL_len];exact hxn
  obtain ⟨d1,d2⟩:=h2.cell hk
  rw [cntL_get _ hxn] at d1
  have hcl:=cntL_le (i:=xr) (pre.map (·.1))
  rw [List.length_map] at hcl
  have hw3:=HB3.out.size
  have hgc:=HCR.out.2
  have HX:RowKit.Hid (∀ a,roundM (cntJ w (gc+1) gc rs.length) (KpF w.heap.size (some gc)) w3.heap.size (pre++[((xr,xi,xb),xv)]) W .normal a (W.setCell ⟨gc,xr,none⟩ (.int .i64 ((((pre.map (·.1)).countP fun m=>m.1 == xr)+1:Nat):Int)))):=Hd
   (fun a=>⟨s3 _ (by have:=keeps_lt HL3.out;omega),s3 _ (by have:=keeps_lt HL3.out;omega),s2,s1⟩)
  have c1:W.cell? ⟨gc+1,0,none⟩=some (.slice (some ⟨gc,0,none⟩) rs.length rs.length):=by simp [World.cell?,h1]
  have c2:W.cell? ⟨B,0,none⟩=some (.int .i64 (xr:Int)):=by simp [World.cell?,hB]
  clear h1 h2 h3 s1 s2 s3 hB hm hj hl hd hsz hk
  generalize ((pre.map (·.1)).countP fun m=>m.1 == xr)=z at *
  have hwz:IntKind.i64.wrap ((z:Int)+1)=((z+1:Nat):Int):=by rw [IntKind.wrap_i64];omega
  have hx0:(0:Int)≤(xr:Int):=by omega
  have hxi:(xr:Int)<rs.length:=by omega
  clear hcl hlen hN
  simp only []
  gi_wp2
  exact HX.out _
 case done =>
  rintro xs W hS ⟨h1,h2,h3⟩ hd
  have c1:W.cell? ⟨gc+1,0,none⟩=some (.slice (some ⟨gc,0,none⟩) rs.length rs.length):=by simp [World.cell?,h1]
  have hpk:∀ (k:Nat) (cs:Array Value) (T:TypeId) (fr:Nat×Nat),W.heap[k]?=some (.cells cs T fr)→(W.putObj w3.heap.size (.deferred none)).heap[k]?=W.heap[k]?:=fun k cs T fr hc=>World.putObj_heap_other (fun e=>by subst e;rw [hd] at hc;cases hc)
  have hg2:LensB (W.putObj w3.heap.size (.deferred none)) gc (cntL rs.length (allM (rs.map (·.1)) l)):=by
   rw [← hS]
   exact (hpk _ _ _ _ h2).trans h2
  have ho:=LensB.owns hg2 HBO.out (by rw [cntL_len];omega)
  rw [cntL_len] at ho
  have HX:=Hd (HQ.out 0 (.slice (some ⟨gc,0,none⟩) rs.length rs.length) _ (W.putObj w3.heap.size (.deferred none)) HZ.out (by rw [if_pos rfl]) (put_below _ HB3.out.size h3) (by rw [cntL_len];exact ho))
  have HD:=Hd hd
  clear h1 h2 h3 hpk hS hd hg2 ho
  gi_wp2
  refine ⟨by simp,.inl ⟨_,_,rfl,run_takeDeferred HD.out,?_⟩⟩
  refine ⟨.tuple #[.slice (some ⟨gc,0,none⟩) rs.length rs.length,.int .i64 0],?_,HX.out⟩
  simp [results,Tryz.f32,go_sem]
end Go.Proofs.YtlkheofphafofaaGreatDoor
namespace Go.Proofs.YtlkheofphafofaaGreatDoor
set_option linter.all false
attribute [local irreducible] Calls
open Go.RowKit

theorem oneM_of {rules:List RuleM} {l:List Prt} {i n:Nat} {r:RuleM} (hr:rules[n]?=some r):oneM rules l i n=match atZ r l i with
  | some τ=>[(n,i,bindsOf r.holes τ)]
  | none=>[]:=by
 unfold oneM
 rw [hr]
 rfl
def FlatF (rules:List RuleM) (l:List Prt) (w0:World) (e:Ending) (w':World):Prop :=
 ∃ va vc xs,e=.returned (.tuple #[.slice va xs.length vc,.int .i64 (findErr rules l)])∧xs.length≤vc∧xs.map (·.1)=(if findErr rules l=0 then allM rules l else [])∧MchsIn w' (.slice va xs.length vc) xs∧Below w0.heap.size w0 w'∧w'.ownsRow w0.heap.size 95 3 (.slice va xs.length vc) xs.length (mchsV xs)∧∀ x∈xs,MemM w0.heap.size x w'
theorem all_flat (rs:List RuleX) (hs:∀ x∈rs,SmallR x.1) (l:List Prt) (hl:SmallL l) (vr vl:Value) (w:World) (hT:Tabs w) (hM:MaxC w) (hr:RulesIn w vr rs) (hlr:PartRow w vl l) :
  Calls Tryz.prog 30 #[vr,vl] w (FlatF (rs.map (·.1)) l w):=by
 refine (find_All rs hs l hl vr vl w hT hM hr hlr).mono fun e w' h=>?_
 unfold fallPost at h
 obtain ⟨hb,v,xs,he,hxs,hown,hmem⟩:=h
 obtain ⟨va,vc,rfl,hvc⟩:=Row.shape (Row.of_owns hown)
 exact ⟨va,vc,xs,he,hvc,hxs,⟨Row.of_owns hown,fun x hx=>Row.of_owns (hmem x hx)⟩,hb,hown,hmem⟩
theorem allM_small {rules:List RuleM} {l:List Prt} (hs:∀ r∈rules,r.holes.length≤1048576) (hl:l.length≤1048576):∀ m∈allM rules l,m.2.2.length≤1048576:=by
 intro m hm
 obtain ⟨_,r,τ,hr,ha,he⟩:=mem_allM.1 hm
 rw [he,(binds_small ha hl).1]
 exact hs r (List.mem_of_getElem? hr)
end Go.Proofs.YtlkheofphafofaaGreatDoor
namespace Go.Proofs.YtlkheofphafofaaGreatDoor
set_option linter.all false
attribute [local irreducible] Calls
open Go.RowKit

set_option maxRecDepth 100000 in
set_option maxHeartbeats 8000000 in
theorem ref_Check18 (rs:List RuleX) (hs:∀ x∈rs,SmallR x.1) (hn:rs.length≤1048576) (l:List Prt) (hl:l.length≤1048576) (vr vl:Value) (w:World) (hr:RulesIn w vr rs) (hlr:PartRow w vl l) :
  Calls Tryz.prog 57 #[vr,vl] w fun e w'=>e=.returned (.int .i64 (findErr (rs.map (·.1)) l))∧Below w.heap.size w w':=by
 have HQ:RowKit.Hid (∀ x w',findErr (rs.map (·.1)) l=x→Below w.heap.size w w'→(fun (e:Ending) w'=>e=.returned (.int .i64 (findErr (rs.map (·.1)) l))∧Below w.heap.size w w') (.returned (.int .i64 x)) w'):=Hd fun x w' h hb=>⟨by rw [h],hb⟩
 generalize (fun (e:Ending) w'=>e=.returned (.int .i64 (findErr (rs.map (·.1)) l))∧Below w.heap.size w w')=Q at *
 have HF:RowKit.Hid (findErr (rs.map (·.1)) l=if wellB l=false then 8 else if 32<rs.length then 14 else firstErr (rs.map (·.1))):=Hd (by unfold findErr;rw [List.length_map])
 obtain ⟨ar,cr,rfl,hcr⟩:=hr.shape
 obtain ⟨al,cl,rfl,hcl⟩:=hlr.slice
 have CW:=Hd (ref_Well11 l (by omega) _ w hlr)
 have HS:=Hd hs
 have HR:=Hd hr
 clear hr hlr hs
 go_enter Tryz.func57,Tryz.ntmps57
 go_wp2_with fail
 refine CW.out.mono ?_
 rintro e W1 ⟨rfl,rfl⟩
 clear CW
 cases hw:wellB l with
 | false =>
  have HX:=Hd (HQ.out 8 w (by rw [HF.out,hw];rfl) (Below.refl _ _))
  clear hw
  go_wp2_with fail
  exact HX.out
 | true =>
 have HW:=Hd hw
 clear hw
 by_cases h32:32<rs.length
 ·have HX:=Hd (HQ.out 14 w (by rw [HF.out,HW.out,if_neg (by simp),if_pos h32]) (Below.refl _ _))
  have g1:(32:Int)<rs.length:=by omega
  go_wp2_with fail
  exact HX.out
 have HFE:RowKit.Hid (findErr (rs.map (·.1)) l=firstErr (rs.map (·.1))):=Hd (by rw [HF.out,HW.out,if_neg (by simp),if_neg h32])
 have h32':(rs.length:Int)≤32:=by omega
 clear h32
 go_wp2_with fail
 go_loopw [5] (fun iv wr=>fcRel rs w iv wr) (fun iv _=>rs.length-(intOf iv).toNat)
 case atStart=>exact ⟨0,rfl,Nat.zero_le _,rfl,Below.refl _ _⟩
 case round =>
  obtain ⟨k,rfl,hk,hfe,hb⟩:=hrel
  have HB:=Hd hb
  have HE:=Hd hfe
  clear hb hfe
  by_cases hlt:k<rs.length
  ·obtain ⟨b,off,rfl,_,_,hbl,hcell⟩:=HR.out.at HB.out (show 0<rs.length by omega)
   obtain ⟨d0,d1,d2,d3,d4⟩:=hcell k hlt
   have hin:=HR.out.E _ (List.getElem_mem hlt)
   have hsm:=HS.out _ (List.getElem_mem hlt)
   have HE2:RowKit.Hid (firstErr (rs.map (·.1))=if ruleZ (rs[k]).1=0 then firstErr ((rs.drop (k+1)).map (·.1)) else ruleZ (rs[k]).1):=Hd (by
    rw [HE.out,List.drop_eq_getElem_cons hlt,List.map_cons,firstErr])
   generalize rs[k]=x at *
   obtain ⟨r,vh,vf,vb⟩:=x
   simp only [] at d0 d1 d2 d3 d4 hin hsm HE2
   obtain ⟨ah,ch,rfl,hch⟩:=Row.shape hin.H
   obtain ⟨af,cf,rfl,hcf⟩:=hin.F.slice
   obtain ⟨ab,cb,rfl,hcb⟩:=hin.B.slice
   have hk0:(0:Int)≤(k:Int):=by omega
   have hkl:(k:Int)<rs.length:=by omega
   have hkc:(k:Int)<(cr:Int):=by omega
   have CR:=Hd (ref_Check16 r hsm _ _ _ _ (hin.below HB.out))
   unfold ruleAgg at CR
   clear hcell hin hsm
   go_wp2_with fail
   refine CR.out.mono ?_
   rintro e W3 ⟨rfl,hb3⟩
   have HB3:=Hd (bthen HB.out hb3)
   clear hb3 CR d0 d1 d2 d3 d4
   by_cases hz:ruleZ r=0
   ·have HX:RowKit.Hid (fcRel rs w (.int .i64 ((k:Int)+1)) W3):=Hd ⟨k+1,by push_cast;rfl,hlt,by rw [HE2.out,if_pos hz],HB3.out⟩
    rw [hz]
    clear hz
    go_wp2_with fail
    exact ⟨HX.out,by simp only [intOf];omega⟩
   ·have HX:=Hd (HQ.out (ruleZ r) W3 (by rw [HFE.out,HE2.out,if_neg hz]) HB3.out)
    have g1:(ruleZ r != 0)=true:=by rw [bne_iff_ne];exact hz
    have g2:(ruleZ r == 0)=false:=by rw [beq_eq_false_iff_ne];exact hz
    clear hz
    generalize ruleZ r=z at *
    go_wp2_with fail
    exact HX.out
  ·obtain rfl:k=rs.length:=by omega
   have HX:=Hd (HQ.out 0 wr (by rw [HFE.out,HE.out,List.drop_length];rfl) HB.out)
   have hkl:¬ (rs.length:Int)<rs.length:=by omega
   go_wp2_with fail
   exact HX.out
def raOut (rules:List RuleM) (l:List Prt) (w1:World) (ov iv:Value) (wr:World):Prop :=
 ∃ (i:Nat) (pre:List MchX),iv=.int .i64 (i:Int)∧i≤l.length∧pre.map (·.1)=accM rules l i 0∧wr.ownsRow w1.heap.size 95 3 ov pre.length (mchsV pre)∧(∀ x∈pre,MemM w1.heap.size x wr)∧Below w1.heap.size w1 wr
def raInn (rules:List RuleM) (l:List Prt) (i:Nat) (w1:World) (ov nv:Value) (wr:World):Prop :=
 ∃ (n:Nat) (pre:List MchX),nv=.int .i64 (n:Int)∧n≤rules.length∧pre.map (·.1)=accM rules l i n∧wr.ownsRow w1.heap.size 95 3 ov pre.length (mchsV pre)∧(∀ x∈pre,MemM w1.heap.size x wr)∧Below w1.heap.size w1 wr
theorem MemM.grown {B:Nat} {x:MchX} {w w':World} {v:Value} {n:Nat} {xs:List Value} (h:MemM B x w) (ho:w.ownsRow B 95 3 v n xs) (hg:w.grownBy w' v.ownBlock):MemM B x w':=other_row ho hg h (by decide)
set_option maxRecDepth 100000 in
set_option maxHeartbeats 16000000 in
theorem ref_All18 (rs:List RuleX) (hs:∀ x∈rs,SmallR x.1) (hn:rs.length≤1048576) (l:List Prt) (hl:SmallL l) (vr vl:Value) (w:World) (hr:RulesIn w vr rs) (hlr:PartRow w vl l) :
  Calls Tryz.prog 31 #[vr,vl] w (FlatF (rs.map (·.1)) l w):=by
 have HQ:RowKit.Hid (∀ z v xs w',findErr (rs.map (·.1)) l=z→xs.map (·.1)=(if z=0 then allM (rs.map (·.1)) l else [])→Below w.heap.size w w'→w'.ownsRow w.heap.size 95 3 v xs.length (mchsV xs)→(∀ x∈xs,MemM w.heap.size x w')→FlatF (rs.map (·.1)) l w (.returned (.tuple #[v,.int .i64 z])) w'):=Hd fun z v xs w' h1 h2 h3 h4 h5=>by
  subst h1
  obtain ⟨va,vc,rfl,hvc⟩:=Row.shape (Row.of_owns h4)
  exact ⟨va,vc,xs,rfl,hvc,h2,⟨Row.of_owns h4,fun x hx=>Row.of_owns (h5 x hx)⟩,h3,h4,h5⟩
 generalize FlatF (rs.map (·.1)) l w=Q at *
 have CC:=Hd (ref_Check18 rs hs hn l hl.1 vr vl w hr hlr)
 obtain ⟨ar,cr,rfl,hcr⟩:=hr.shape
 obtain ⟨al,cl,rfl,hcl⟩:=hlr.slice
 have HS:=Hd hs
 have HL:=Hd hl
 have HR:=Hd hr
 have HLR:=Hd hlr
 have hll:=hl.1
 clear hs hl hr hlr
 go_enter Tryz.func31,Tryz.ntmps31
 go_wp2_with fail
 refine CC.out.mono ?_
 rintro e w1 ⟨rfl,hb1⟩
 have HB1:=Hd hb1
 clear hb1 CC
 by_cases hz:findErr (rs.map (·.1)) l=0
 case neg =>
  have g1:(findErr (rs.map (·.1)) l != 0)=true:=by rw [bne_iff_ne];exact hz
  have HX:=Hd (HQ.out _ (.slice none 0 0) [] w1 rfl (by rw [if_neg hz];rfl) HB1.out (World.ownsRow_nil _ _ _ _) (fun x hx=>by cases hx))
  clear hz
  generalize findErr (rs.map (·.1)) l=z at *
  go_wp2_with fail
  exact HX.out
 have HZ:=Hd hz
 have h32:rs.length≤32:=by have:=(findErr_zero.1 hz).2.1;rw [List.length_map] at this;exact this
 have HQ0:RowKit.Hid (∀ v xs w',xs.map (·.1)=allM (rs.map (·.1)) l→Below w.heap.size w w'→w'.ownsRow w.heap.size 95 3 v xs.length (mchsV xs)→(∀ x∈xs,MemM w.heap.size x w')→Q (.returned (.tuple #[v,.int .i64 0])) w'):=Hd fun v xs w' h2 h3 h4 h5=>HQ.out 0 v xs w' HZ.out (by rw [if_pos rfl];exact h2) h3 h4 h5
 rw [hz]
 have hlr2:(rs.map (·.1)).length=rs.length:=List.length_map _
 clear hz HQ
 go_wp2_with fail
 go_loopw [7,8] (fun ov iv wr=>raOut (rs.map (·.1)) l w1 ov iv wr) (fun _ iv _=>l.length-(intOf iv).toNat)
 case atStart=>exact ⟨0,[],rfl,Nat.zero_le _,by unfold accM;simp,World.ownsRow_nil _ _ _ _,(fun x hx=>by cases hx),Below.refl _ _⟩
 case round =>
  obtain ⟨i,pre,rfl,hi,hpre,ho,hm,hb⟩:=hrel
  obtain ⟨oa,oc,rfl,hoc⟩:=Row.shape (Row.of_owns ho)
  have HB:=Hd hb
  have HP:=Hd hpre
  have HO:=Hd ho
  have HM:=Hd hm
  clear hb hpre ho hm hoc
  by_cases hlt:i<l.length
  ·have hil:(i:Int)<l.length:=by omega
   have hi0:(0:Int)≤(i:Int):=by omega
   go_wp2_with fail
   go_loopw [7,9] (fun ov nv wr=>raInn (rs.map (·.1)) l i w1 ov nv wr) (fun _ nv _=>rs.length-(intOf nv).toNat)
   case atStart=>exact ⟨0,pre,rfl,Nat.zero_le _,HP.out,HO.out,HM.out,HB.out⟩
   case round =>
    obtain ⟨n,pre2,rfl,hnl,hpre2,ho2,hm2,hb2⟩:=hrel
    obtain ⟨oa2,oc2,rfl,hoc2⟩:=Row.shape (Row.of_owns ho2)
    rw [hlr2] at hnl
    have HB2:=Hd hb2
    have HP2:=Hd hpre2
    have HO2:=Hd ho2
    have HM2:=Hd hm2
    have HPL:RowKit.Hid (pre2.length≤1048576*33):=Hd (by
     have h1:=accM_len (rs.map (·.1)) l i n
     have h2:=congrArg List.length hpre2
     rw [List.length_map] at h2
     rw [hlr2] at h1
     have h3:i*rs.length≤1048576*32:=Nat.mul_le_mul (by omega) h32
     omega)
    clear hb2 hpre2 ho2 hm2 hoc2
    by_cases hlt2:n<rs.length
    ·obtain ⟨rb,ro,rfl,_,_,hrl,hcell⟩:=HR.out.at (bthen HB1.out HB2.out) (show 0<rs.length by omega)
     obtain ⟨d0,d1,d2,d3,d4⟩:=hcell n hlt2
     have hin:=HR.out.E _ (List.getElem_mem hlt2)
     have hsm:=HS.out _ (List.getElem_mem hlt2)
     have hrn:(rs.map (·.1))[n]?=some (rs[n]).1:=by rw [List.getElem?_map,List.getElem?_eq_getElem hlt2];rfl
     generalize rs[n]=x at *
     obtain ⟨r,vh,vf,vb⟩:=x
     simp only [] at d0 d1 d2 d3 d4 hin hsm hrn
     have CAt:=Hd (ref_At17 r hsm _ _ _ l HL.out _ (i:Int) wr (hin.below (bthen HB1.out HB2.out)) (HLR.out.below (bthen HB1.out HB2.out)))
     obtain ⟨ah,ch,rfl,hch⟩:=Row.shape hin.H
     obtain ⟨af,cf,rfl,hcf⟩:=hin.F.slice
     obtain ⟨ab,cb,rfl,hcb⟩:=hin.B.slice
     unfold ruleAgg at CAt
     have hst:=accM_step (rs.map (·.1)) l i n
     rw [oneM_of hrn] at hst
     have HST:=Hd hst
     have HBN:RowKit.Hid (∀ τ,atZ r l (i:Int)=some τ→(bindsOf r.holes τ).length=r.holes.length):=Hd fun τ ht=>(binds_small ht hll).1
     have hn0:(0:Int)≤(n:Int):=by omega
     have hnr:(n:Int)<rs.length:=by omega
     have hnc:(n:Int)<cr:=by omega
     clear hcell hin hsm hrn hst
     go_wp2_with fail
     refine CAt.out.mono ?_
     intro e w4 h4
     unfold atPost at h4
     obtain ⟨hb4,h4⟩:=h4
     have HB4:=Hd (bthen HB2.out hb4)
     have HO4:=Hd (owns_below HO2.out hb4)
     have HM4:RowKit.Hid (∀ x∈pre2,MemM w1.heap.size x w4):=Hd fun x hx=>owns_below (HM2.out x hx) hb4
     have HS4:=Hd hb4.size
     clear hb4 CAt d0 d1 d2 d3 d4 HO2 HM2
     cases hat:atZ r l (i:Int) with
     | none =>
      rw [hat] at h4
      simp only [] at h4
      subst h4
      have HX:RowKit.Hid (raInn (rs.map (·.1)) l i w1 (.slice oa2 pre2.length oc2) (.int .i64 ((n:Int)+1)) w4):=Hd ⟨n+1,pre2,by push_cast;rfl,by rw [hlr2];exact hlt2,by rw [HST.out,hat,List.append_nil];exact HP2.out,HO4.out,HM4.out,HB4.out⟩
      clear hat
      go_wp2_with fail
      exact ⟨HX.out,by simp only [intOf];omega⟩
     | some τ =>
      rw [hat] at h4
      simp only [] at h4
      obtain ⟨vq,rfl,hq⟩:=h4
      obtain ⟨qa,qc,rfl,hqc⟩:=Row.shape (Row.of_owns hq)
      have hbn:=HBN.out τ hat
      have HQ4:RowKit.Hid (MemM w1.heap.size ((n,i,bindsOf r.holes τ),.slice qa r.holes.length qc) w4):=Hd (by
       unfold MemM
       simp only []
       rw [hbn]
       exact World.ownsRow.base_mono hq (by have:=HB2.out.size;exact this))
      have HST2:=Hd (show accM (rs.map (·.1)) l i (n+1)=accM (rs.map (·.1)) l i n++[(n,i,bindsOf r.holes τ)] by rw [HST.out,hat])
      have hbs:=HB4.out.size
      have hpl:=HPL.out
      clear hq hqc hat hbn HST HBN
      go_wp2_with (at_builtin;refine wpList_append_lit w4 #[.int .i64 (n:Int),.int .i64 (i:Int),.slice qa r.holes.length qc] _ rfl _ _ 58 95 rfl Tryz.underlying58 w1.heap.size Minfo_match rfl (by decide) _ _ _ rfl HO4.out 1 1 rfl rfl (by decide) (by intro u hu;simp at hu;rcases hu with rfl | rfl | rfl <;> rfl) (by omega) (by omega) hbs ?_)
      intro v' w' hown hgr _
      have hb':=grown_below HB4.out hbs HO4.out hgr
      have hoA:=HO4.out.alloc (.cells #[.int .i64 (n:Int),.int .i64 (i:Int),.slice qa r.holes.length qc] 95)
      have hmem:∀ x∈pre2++[((n,i,bindsOf r.holes τ),.slice qa r.holes.length qc)],MemM w1.heap.size x w':=fun x hx=>by
       have h1:MemM w1.heap.size x w4:=by
        rcases List.mem_append.1 hx with h | h
        ·exact HM4.out x h
        ·obtain rfl:x=_:=by simpa using h
         exact HQ4.out
       exact MemM.grown (World.ownsRow.alloc h1 _) hoA hgr
      have HX:RowKit.Hid (raInn (rs.map (·.1)) l i w1 v' (.int .i64 ((n:Int)+1)) w'):=Hd ⟨n+1,pre2++[((n,i,bindsOf r.holes τ),.slice qa r.holes.length qc)],by push_cast;rfl,by rw [hlr2];exact hlt2,by rw [HST2.out,List.map_append,HP2.out];rfl,by rw [List.length_append,mchsV_snoc];exact hown,hmem,hb'⟩
      obtain ⟨va',vc',rfl,_⟩:=Row.shape (Row.of_owns hown)
      clear hown hgr hb' hoA hmem
      go_wp2_with fail
      exact ⟨HX.out,by simp only [intOf];omega⟩
    ·obtain rfl:n=rs.length:=by omega
     have hnr:¬ (rs.length:Int)<rs.length:=by omega
     have HX:RowKit.Hid (raOut (rs.map (·.1)) l w1 (.slice oa2 pre2.length oc2) (.int .i64 ((i:Int)+1)) wr):=Hd ⟨i+1,pre2,by push_cast;rfl,hlt,by rw [accM_next,hlr2];exact HP2.out,HO2.out,HM2.out,HB2.out⟩
     go_wp2_with fail
     exact ⟨HX.out,by simp only [intOf];omega⟩
  ·obtain rfl:i=l.length:=by omega
   have hil:¬ (l.length:Int)<l.length:=by omega
   have HX:=Hd (HQ0.out _ pre wr (by rw [HP.out,accM_all]) (bthen HB1.out HB.out) (World.ownsRow.base_mono HO.out HB1.out.size) (fun x hx=>World.ownsRow.base_mono (HM.out x hx) HB1.out.size))
   go_wp2_with fail
   exact HX.out
end Go.Proofs.YtlkheofphafofaaGreatDoor
namespace Go.Proofs.YtlkheofphafofaaGreatDoor
set_option linter.all false
attribute [local irreducible] Calls
open Go.RowKit

theorem allM_lt {rules:List RuleM} {l:List Prt} {m:Mch} (h:m∈allM rules l):m.1<rules.length:=by
 unfold allM at h
 obtain ⟨i,_,h⟩:=List.mem_flatMap.1 h
 unfold atM at h
 obtain ⟨n,hn,h⟩:=List.mem_flatMap.1 h
 rw [List.mem_range] at hn
 unfold oneM at h
 split at h
 ·split at h
  ·obtain rfl:=List.mem_singleton.1 h
   exact hn
  ·cases h
 ·cases h
def rcRel (n:Nat) (xs:List MchX) (w1:World) (iv:Value) (wr:World):Prop :=
 ∃ i:Nat,iv=.int .i64 (i:Int)∧i≤xs.length∧LensB wr w1.heap.size (cntL n ((xs.take i).map (·.1)))∧Below w1.heap.size w1 wr
set_option maxRecDepth 100000 in
set_option maxHeartbeats 8000000 in
theorem ref_Count18 (rs:List RuleX) (hs:∀ x∈rs,SmallR x.1) (hn:rs.length≤1048576) (l:List Prt) (hl:SmallL l) (vr vl:Value) (w:World) (hr:RulesIn w vr rs) (hlr:PartRow w vl l) :
  Calls Tryz.prog 33 #[vr,vl] w (cntPost (rs.map (·.1)) l w):=by
 have HQ:RowKit.Hid (∀ z v ns w',findErr (rs.map (·.1)) l=z→ns=(if z=0 then cntL rs.length (allM (rs.map (·.1)) l) else [])→Below w.heap.size w w'→w'.ownsRow w.heap.size 3 1 v ns.length (natV ns)→cntPost (rs.map (·.1)) l w (.returned (.tuple #[v,.int .i64 z])) w'):=Hd fun z v ns w' h1 h2 h3 h4=>by
  subst h1;unfold cntPost;exact ⟨h3,v,rfl,ns,by rw [List.length_map];exact h2,h4⟩
 generalize cntPost (rs.map (·.1)) l w=Q at *
 have CA:=Hd (ref_All18 rs hs hn l hl vr vl w hr hlr)
 obtain ⟨ar,cpr,rfl,hcr⟩:=hr.shape
 obtain ⟨al,cpl,rfl,hcl⟩:=hlr.slice
 have hll:=hl.1
 clear hs hl hr hlr
 unfold FlatF at CA
 go_enter Tryz.func33,Tryz.ntmps33
 go_wp2_with fail
 refine CA.out.mono ?_
 rintro e w1 ⟨va,vc,xs,rfl,hvc,hxs,hmi,hb1,_,_⟩
 have HB1:=Hd hb1
 have HMI:=Hd hmi
 clear hb1 hmi CA
 by_cases hz:findErr (rs.map (·.1)) l=0
 case neg =>
  have HX:=Hd (HQ.out _ (.slice none 0 0) [] w1 rfl (by rw [if_neg hz]) HB1.out (World.ownsRow_nil _ _ _ _))
  have g1:(findErr (rs.map (·.1)) l != 0)=true:=by rw [bne_iff_ne];exact hz
  clear hz hxs
  generalize findErr (rs.map (·.1)) l=z at *
  go_wp2_with fail
  exact HX.out
 rw [if_pos hz] at hxs
 have HZ:=Hd hz
 have h32:rs.length≤32:=by have:=(findErr_zero.1 hz).2.1;rw [List.length_map] at this;exact this
 have HLT:RowKit.Hid (∀ x∈xs,x.1.1<rs.length):=Hd fun x hx=>by
  have h1:x.1∈allM (rs.map (·.1)) l:=by rw [← hxs];exact List.mem_map_of_mem hx
  have:=allM_lt h1
  rw [List.length_map] at this
  exact this
 have HXL:RowKit.Hid (xs.length≤1048576*33):=Hd (by
  have h1:=accM_len (rs.map (·.1)) l l.length 0
  rw [accM_all,← hxs,List.length_map,List.length_map] at h1
  have h3:l.length*rs.length≤1048576*32:=Nat.mul_le_mul hll h32
  omega)
 have HXS:=Hd hxs
 rw [hz]
 clear hz hxs
 have hmk:=Tmake_ints rs.length (by omega)
 have HB2:=Hd (HB1.out.alloc HB1.out.size (.cells (Array.replicate rs.length (.int .i64 0)) 3))
 have HG2:RowKit.Hid (LensB (w1.alloc (.cells (Array.replicate rs.length (.int .i64 0)) 3)) w1.heap.size (cntL rs.length [])):=Hd (by
  unfold LensB
  rw [cntL_nil,heap_alloc_new]
  unfold natV
  simp)
 have HGB:RowKit.Hid (w.heap.size≤w1.heap.size):=Hd HB1.out.size
 have HB3:=Hd ((Below.refl w1.heap.size w1).alloc (Nat.le_refl _) (.cells (Array.replicate rs.length (.int .i64 0)) 3))
 go_upto_region 5 with (fail)
 generalize w1.alloc (.cells (Array.replicate rs.length (.int .i64 0)) 3)=w3 at *
 clear hmk HB2
 go_wp2_with fail
 go_loopw [9] (fun iv wr=>rcRel rs.length xs w1 iv wr) (fun iv _=>xs.length-(intOf iv).toNat)
 case atStart=>exact ⟨0,rfl,Nat.zero_le _,HG2.out,HB3.out⟩
 case round =>
  obtain ⟨i,rfl,hi,hg,hb⟩:=hrel
  have HG:=Hd hg
  have HB:=Hd hb
  clear hg hb
  by_cases hlt:i<xs.length
  ·obtain ⟨vb,vo,rfl,_,_,hcell⟩:=HMI.out.at HB.out (show 0<xs.length by omega)
   have d0:=(hcell i hlt).1
   have hk:=HLT.out _ (List.getElem_mem hlt)
   have hkl:xs[i].1.1<(cntL rs.length ((xs.take i).map (·.1))).length:=by rw [cntL_len];exact hk
   obtain ⟨d1,d2⟩:=HG.out.cell hkl
   have hgs:=HG.out.set xs[i].1.1 ((((xs.take i).map (·.1)).countP fun m=>m.1 == xs[i].1.1)+1)
   rw [← cntL_snoc,← show ((xs.take (i+1)).map (·.1))=(xs.take i).map (·.1)++[xs[i].1] by rw [List.take_succ_eq_append_getElem hlt,List.map_append];rfl] at hgs
   rw [cntL_get _ hk] at d1
   have hcl:=cntL_le (i:=xs[i].1.1) ((xs.take i).map (·.1))
   rw [List.length_map,List.length_take] at hcl
   have HX:RowKit.Hid (rcRel rs.length xs w1 (.int .i64 ((i:Int)+1)) (wr.setCell ⟨w1.heap.size,xs[i].1.1,none⟩ (.int .i64 (((((xs.take i).map (·.1)).countP fun m=>m.1 == xs[i].1.1)+1:Nat):Int)))):=Hd ⟨i+1,by push_cast;rfl,hlt,hgs,HB.out.setCell (p:=⟨w1.heap.size,xs[i].1.1,none⟩) (Nat.le_refl _) _⟩
   have hxl:=HXL.out
   clear hcell hgs hkl
   generalize (((xs.take i).map (·.1)).countP fun m=>m.1 == xs[i].1.1)=z at *
   generalize xs[i].1.1=k at *
   have hwz:IntKind.i64.wrap ((z:Int)+1)=((z+1:Nat):Int):=by rw [IntKind.wrap_i64];omega
   have hi0:(0:Int)≤(i:Int):=by omega
   have hil:(i:Int)<xs.length:=by omega
   have hic:(i:Int)<(vc:Int):=by omega
   have hk0:(0:Int)≤(k:Int):=by omega
   have hkn:(k:Int)<rs.length:=by omega
   have hwi:IntKind.i64.wrap ((i:Int)+1)=(i:Int)+1:=by rw [IntKind.wrap_i64];omega
   have HMS:RowKit.Hid (xs.length-(i+1)<xs.length-i):=Hd (by omega)
   clear hcl hxl
   go_wp2_with fail
   exact ⟨HX.out,by have:=HMS.out;simp only [intOf];omega⟩
  ·obtain rfl:i=xs.length:=by omega
   have hil:¬ (xs.length:Int)<xs.length:=by omega
   have hgo:=HG.out
   rw [List.take_length,HXS.out] at hgo
   have ho:=LensB.owns hgo HGB.out (by rw [cntL_len];omega)
   rw [cntL_len] at ho
   have HX:=Hd (HQ.out 0 (.slice (some ⟨w1.heap.size,0,none⟩) rs.length rs.length) _ wr HZ.out (by rw [if_pos rfl]) (bthen HB1.out HB.out) (by rw [cntL_len];exact ho))
   clear hgo ho
   go_wp2_with fail
   exact HX.out
end Go.Proofs.YtlkheofphafofaaGreatDoor
