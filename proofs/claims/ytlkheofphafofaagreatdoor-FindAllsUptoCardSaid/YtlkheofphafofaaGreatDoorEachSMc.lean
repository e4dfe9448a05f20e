/- Layer 18: what find.each holds in memory. -/
import Derived.Test.YtlkheofphafofaaGreatDoorRuleVMc
import Derived.Test.YtlkheofphafofaaGreatDoorSeekGMc
import Derived.Test.YtlkheofphafofaaGreatDoorAtSMc
import Derived.Test.YtlkheofphafofaaGreatDoorRuleCheckMc
import Derived.Test.YtlkheofphafofaaGreatDoorRangeMMc
import Derived.Test.YtlkheofphafofaaGreatDoorAtMc
import Derived.Test.YtlkheofphafofaaGreatDoorAppEqMc
import Derived.Test.YtlkheofphafofaaGreatDoorStillMc
import Derived.Deep.RegionHeld3
import Derived.Test.YtlkheofphafofaaGreatDoorTermQMc
import Derived.Test.YtlkheofphafofaaGreatDoorTermSameMc
import Derived.Test.YtlkheofphafofaaGreatDoorMapSMc
namespace Go.Proofs.YtlkheofphafofaaGreatDoor
set_option linter.all false
open Go.RowKit

abbrev MchX:=Mch×Value
def mchV (x:MchX):List Value:=[.int .i64 (x.1.1:Int),.int .i64 (x.1.2.1:Int),x.2]
def mchsV (xs:List MchX):List Value:=xs.flatMap mchV
theorem mchsV_snoc (xs:List MchX) (x:MchX):mchsV (xs++[x])=mchsV xs++mchV x:=by simp [mchsV]
def encM (x:MchX):Array Value:=#[.agg #[.int .i64 (x.1.1:Int),.int .i64 (x.1.2.1:Int),x.2]]
def MemM (B:Nat) (x:MchX) (W:World):Prop:=W.ownsRow B 41 3 x.2 x.1.2.2.length (bindsV x.1.2.2)
def MemR (B n:Nat) (x:MchX) (W:World):Prop:=MemM B x W∧x.1.1<n
structure KpF (B:Nat) (bx:Option Nat) (W W':World):Prop where
 os:W'.os=W.os
 tape:W'.tape=W.tape
 output:W'.output=W.output
 size:W.heap.size≤W'.heap.size
 low:∀ k,k<B→k<W.heap.size→W'.heap[k]?=W.heap[k]?
 cells:∀ k cs T fr,W.heap[k]?=some (.cells cs T fr)→T≠95→T≠58→some k≠bx→W'.heap[k]?=W.heap[k]?
theorem KpF.of_below {B:Nat} {bx:Option Nat} {W W':World} (h:Below W.heap.size W W'):KpF B bx W W' :=
 ⟨h.os,h.tape,h.output,h.size,fun k _ hk=>h.block k hk,fun k cs T fr hc _ _ _=>h.block k (keeps_lt hc)⟩
theorem KpF.trans {B:Nat} {bx:Option Nat} {a b c:World} (h:KpF B bx a b) (k:KpF B bx b c):KpF B bx a c :=
 ⟨k.os.trans h.os,k.tape.trans h.tape,k.output.trans h.output,Nat.le_trans h.size k.size,fun i h1 h2=>(k.low i h1 (Nat.lt_of_lt_of_le h2 h.size)).trans (h.low i h1 h2),
  fun i cs T fr hc h1 h2 h3=>by
   have e:=h.cells i cs T fr hc h1 h2 h3
   exact (k.cells i cs T fr (e.trans hc) h1 h2 h3).trans e⟩
theorem KpF.put {B:Nat} {bx:Option Nat} {W:World} {D:Nat} {r:Loop} (o:Obj) (hB:B≤D) (h:W.heap[D]?=some (.loop r)):KpF B bx W (W.putObj D o) :=
 ⟨rfl,rfl,rfl,by simp [World.putObj],fun k h1 _=>World.putObj_heap_other (by omega),fun k cs T fr hc _ _ _=>World.putObj_heap_other (fun e=>by subst e;rw [h] at hc;cases hc)⟩
theorem KpF.below {bx:Option Nat} {w W W':World} (hb:Below w.heap.size w W) (h:KpF w.heap.size bx W W'):Below w.heap.size w W' :=
 ⟨h.os.trans hb.os,h.tape.trans hb.tape,h.output.trans hb.output,Nat.le_trans hb.size h.size,fun k hk=>(h.low k hk (Nat.lt_of_lt_of_le hk hb.size)).trans (hb.block k hk)⟩
theorem KpF.row {B:Nat} {bx:Option Nat} {W W':World} (h:KpF B bx W W') {C:Nat} {e:TypeId} {size n:Nat} {v:Value} {xs:List Value} (hr:W.ownsRow C e size v n xs) (h1:e≠95) (h2:e≠58) (hx:∀ k,bx=some k→k<C):W'.ownsRow C e size v n xs:=by
 obtain ⟨g1,g2⟩:=hr
 refine ⟨g1,?_⟩
 rcases g2 with g2 | ⟨k,cap,cur,hv,hk,hh,r⟩
 ·exact Or.inl g2
 ·exact Or.inr ⟨k,cap,cur,hv,hk,(h.cells k _ _ _ hh h1 h2 (fun e=>by have:=hx k e.symm;omega)).trans hh,r⟩
structure EchW (w:World) (m:Nat) (bx:Option Nat) (cl cr:Nat) (vl vr:Value) (W:World):Prop where
 below:Below w.heap.size w W
 L:W.heap[cl]?=some (.cells #[vl] 23 (0,0))
 R:W.heap[cr]?=some (.cells #[vr] 34 (0,0))
 lt:m≤cl∧m≤cr∧w.heap.size≤m
 bx:∀ k,bx=some k→k<m
theorem EchW.ext {w:World} {m:Nat} {bx:Option Nat} {cl cr:Nat} {vl vr:Value} {W W':World} (h:EchW w m bx cl cr vl vr W) (hb:Below W.heap.size W W'):EchW w m bx cl cr vl vr W' :=
 ⟨bthen h.below hb,keeps hb h.L,keeps hb h.R,h.lt,h.bx⟩
theorem EchW.kp {w:World} {m:Nat} {bx:Option Nat} {cl cr:Nat} {vl vr:Value} {W W':World} (h:EchW w m bx cl cr vl vr W) (k:KpF w.heap.size bx W W'):EchW w m bx cl cr vl vr W' :=
 ⟨k.below h.below,(k.cells _ _ _ _ h.L (by decide) (by decide) (fun e=>by have:=h.bx _ e.symm;have:=h.lt;omega)).trans h.L,(k.cells _ _ _ _ h.R (by decide) (by decide) (fun e=>by have:=h.bx _ e.symm;have:=h.lt;omega)).trans h.R,h.lt,h.bx⟩
theorem EchW.cells {w:World} {m:Nat} {bx:Option Nat} {cl cr:Nat} {vl vr:Value} {W:World} (h:EchW w m bx cl cr vl vr W):W.cell? ⟨cl,0,none⟩=some vl∧W.cell? ⟨cr,0,none⟩=some vr:=by
 simp only [World.cell?,h.L,h.R]
 exact ⟨rfl,rfl⟩
theorem EchW.part {w:World} {m:Nat} {bx:Option Nat} {cl cr:Nat} {vl vr:Value} {W W':World} (h:EchW w m bx cl cr vl vr W) (k:KpF w.heap.size bx W W') {g:Nat} {p:Prt} (hg:m≤g) (hp:PK W g p):PK W' g p:=by
 unfold PK at *
 exact (k.cells _ _ _ _ hp (by decide) (by decide) (fun e=>by have:=h.bx _ e.symm;omega)).trans hp
theorem EchW.rule {w:World} {m:Nat} {bx:Option Nat} {cl cr:Nat} {vl vr:Value} {W W':World} (h:EchW w m bx cl cr vl vr W) (k:KpF w.heap.size bx W W') {g:Nat} {nm:ByteArray} {goal:Nat} {vh vf vb:Value} (hg:m≤g) (hp:RK W g nm goal vh vf vb):RK W' g nm goal vh vf vb:=by
 unfold RK at *
 exact (k.cells _ _ _ _ hp (by decide) (by decide) (fun e=>by have:=h.bx _ e.symm;omega)).trans hp
theorem oneM_len (rules:List RuleM) (l:List Prt) (i n:Nat):(oneM rules l i n).length≤1:=by
 unfold oneM
 split
 ·split <;> simp
 ·simp
theorem flat_le {α β:Type} {g:α→List β} {c:Nat}:∀ {xs:List α},(∀ a∈xs,(g a).length≤c)→(xs.flatMap g).length≤xs.length*c
 | [],_=>by simp
 | a::xs,h=>by
  rw [List.flatMap_cons,List.length_append,List.length_cons,Nat.add_mul]
  have h1:=h a (by simp)
  have h2:=flat_le (g:=g) (c:=c) (xs:=xs) (fun b hb=>h b (by simp [hb]))
  omega
theorem accM_len (rules:List RuleM) (l:List Prt) (i n:Nat):(accM rules l i n).length≤i*rules.length+n:=by
 unfold accM
 rw [List.length_append]
 have h1:=flat_le (g:=oneM rules l i) (c:=1) (xs:=List.range n) (fun a _=>oneM_len _ _ _ _)
 have h2:=flat_le (g:=atM rules l) (c:=rules.length) (xs:=List.range i) (fun a _=>by
  unfold atM
  have:=flat_le (g:=oneM rules l a) (c:=1) (xs:=List.range rules.length) (fun b _=>oneM_len _ _ _ _)
  simpa using this)
 rw [List.length_range] at h1 h2
 omega
end Go.Proofs.YtlkheofphafofaaGreatDoor
namespace Go.Proofs.YtlkheofphafofaaGreatDoor
set_option linter.all false
attribute [local irreducible] Calls
open Go.RowKit

theorem lit_part (w:World) (l:List Prt) (hl:l.length≤1000000):PartRow (w.alloc (.cells (partsV l).toArray 48)) (.slice (some ⟨w.heap.size,0,none⟩) l.length l.length) l:=by
 have:(w.alloc (.cells (partsV l).toArray 48)).ownsRow 0 48 3 (.slice (some ⟨w.heap.size,0,none⟩) l.length l.length) l.length (partsV l):=by
  refine ⟨by rw [partsV_length],Or.inr ⟨w.heap.size,l.length,(partsV l).toArray,rfl,Nat.zero_le _,heap_alloc_new _ _,Nat.le_refl _,by unfold maxLen;omega,by simp [partsV_length],by simp [List.take_of_length_le,partsV_length]⟩⟩
 exact Row.of_owns this
theorem lit_holes (w:World) (l:List Hl) (hl:l.length≤1000000):HoleRow (w.alloc (.cells (holesV l).toArray 43)) (.slice (some ⟨w.heap.size,0,none⟩) l.length l.length) l:=by
 have:(w.alloc (.cells (holesV l).toArray 43)).ownsRow 0 43 2 (.slice (some ⟨w.heap.size,0,none⟩) l.length l.length) l.length (holesV l):=by
  refine ⟨by rw [holesV_length],Or.inr ⟨w.heap.size,l.length,(holesV l).toArray,rfl,Nat.zero_le _,heap_alloc_new _ _,Nat.le_refl _,by unfold maxLen;omega,by simp [holesV_length],by simp [List.take_of_length_le,holesV_length]⟩⟩
 exact Row.of_owns this
theorem lit_binds (w:World) (l:List Bnd) (hl:l.length≤1000000):BindRow (w.alloc (.cells (bindsV l).toArray 41)) (.slice (some ⟨w.heap.size,0,none⟩) l.length l.length) l:=by
 have:(w.alloc (.cells (bindsV l).toArray 41)).ownsRow 0 41 3 (.slice (some ⟨w.heap.size,0,none⟩) l.length l.length) l.length (bindsV l):=by
  refine ⟨by rw [bindsV_length],Or.inr ⟨w.heap.size,l.length,(bindsV l).toArray,rfl,Nat.zero_le _,heap_alloc_new _ _,Nat.le_refl _,by unfold maxLen;omega,by simp [bindsV_length],by simp [List.take_of_length_le,bindsV_length]⟩⟩
 exact Row.of_owns this
end Go.Proofs.YtlkheofphafofaaGreatDoor
namespace Go.Proofs.YtlkheofphafofaaGreatDoor
set_option linter.all false
attribute [local irreducible] Calls
attribute [local irreducible] wpStill
open Go.RowKit

abbrev MchI:=Int×Int×List Bnd
def TellsM (x:Bool) (a b:MchI):Prop:=x=true↔a=b
set_option maxRecDepth 100000 in
set_option maxHeartbeats 4000000 in
theorem ref_SameMatch (a b:MchI) (ha:a.2.2.length≤1048576) (hb:b.2.2.length≤1048576) (va vb:Value) (w:World) (h1:BindRow w va a.2.2) (h2:BindRow w vb b.2.2) :
  Calls Tryz.prog 58 #[.agg #[.int .i64 a.1,.int .i64 a.2.1,va],.agg #[.int .i64 b.1,.int .i64 b.2.1,vb]] w fun e w'=>∃ x,e=.returned (.bool x)∧TellsM x a b∧Below w.heap.size w w':=by
 have HQ:RowKit.Hid (∀ x w',TellsM x a b→Below w.heap.size w w'→(fun (e:Ending) w'=>∃ x,e=.returned (.bool x)∧TellsM x a b∧Below w.heap.size w w') (.returned (.bool x)) w'):=Hd fun x w' h h2=>⟨x,rfl,h,h2⟩
 generalize (fun (e:Ending) w'=>∃ x,e=.returned (.bool x)∧TellsM x a b∧Below w.heap.size w w')=Q at *
 obtain ⟨a1,a2,ab⟩:=a
 obtain ⟨b1,b2,bb⟩:=b
 simp only [] at ha hb h1 h2 ⊢
 obtain ⟨aa,ac,rfl,hac⟩:=Row.shape h1
 obtain ⟨ba,bc,rfl,hbc⟩:=Row.shape h2
 have HB:RowKit.Hid (Below w.heap.size w ((w.alloc (.cells #[.int .i64 a1,.int .i64 a2,.slice aa ab.length ac] 95)).alloc (.cells #[.int .i64 b1,.int .i64 b2,.slice ba bb.length bc] 95))):=Hd (((Below.refl _ _).alloc (Nat.le_refl _) _).alloc (by simp) _)
 have CS:=Hd (ref_SameBinds ab bb ha hb _ _ _ (h1.below HB.out) (h2.below HB.out))
 clear h1 h2
 by_cases q1:a1=b1
 case neg =>
  have f1:(a1 == b1)=false:=by rw [beq_eq_false_iff_ne];exact q1
  have HX:=Hd (HQ.out false _ ⟨(fun e=>by cases e),fun e=>absurd (congrArg (·.1) e) q1⟩ HB.out)
  clear q1
  go_enter Tryz.func58,Tryz.ntmps58
  go_wp2_with fail
  exact HX.out
 subst q1
 by_cases q2:a2=b2
 case neg =>
  have f1:(a2 == b2)=false:=by rw [beq_eq_false_iff_ne];exact q2
  have HX:=Hd (HQ.out false _ ⟨(fun e=>by cases e),fun e=>absurd (congrArg (·.2.1) e) q2⟩ HB.out)
  clear q2
  go_enter Tryz.func58,Tryz.ntmps58
  go_wp2_with fail
  exact HX.out
 subst q2
 go_enter Tryz.func58,Tryz.ntmps58
 go_wp2_with fail
 refine CS.out.mono ?_
 rintro e w2 ⟨x,rfl,ht,hb2⟩
 have HX:=Hd (HQ.out x w2 ⟨fun e=>by rw [ht.1 e],fun e=>ht.2 (congrArg (·.2.2) e)⟩ (bthen HB.out hb2))
 clear ht hb2 CS
 go_wp2_with fail
 exact HX.out
structure MchsIn (w:World) (v:Value) (xs:List MchX):Prop where
 R:Row w v xs.length 3 (mchsV xs)
 E:∀ x∈xs,BindRow w x.2 x.1.2.2
theorem MchsIn.below {w w':World} {v:Value} {xs:List MchX} (h:MchsIn w v xs) (hb:Below w.heap.size w w'):MchsIn w' v xs:=⟨Row.below h.R hb,fun x hx=>(h.E x hx).below hb⟩
theorem MchsIn.shape {w:World} {v:Value} {xs:List MchX} (h:MchsIn w v xs):∃ a cap,v=.slice a xs.length cap∧xs.length≤cap:=Row.shape h.R
theorem MchsIn.at {w w':World} {a:Option Addr} {n cap:Nat} {xs:List MchX} (h:MchsIn w (.slice a n cap) xs) (hb:Below w.heap.size w w') (hp:0<xs.length) :
  ∃ b off,a=some ⟨b,off,none⟩∧xs.length≤cap∧b<w.heap.size∧∀ i (hi:i<xs.length),
   w'.cell? ⟨b,off+i*3,none⟩=some (.int .i64 (xs[i].1.1:Int))∧w'.cell? ⟨b,off+i*3+1,none⟩=some (.int .i64 (xs[i].1.2.1:Int))∧w'.cell? ⟨b,off+i*3+2,none⟩=some xs[i].2:=by
 obtain ⟨b,off,cap',hv,hc,hlt,hcell⟩:=Row.cells h.R hb hp
 simp only [Value.slice.injEq] at hv
 obtain ⟨rfl,rfl,rfl⟩:=hv
 have key:∀ i (hi:i<xs.length) (j:Nat),j<3→w'.cell? ⟨b,off+i*3+j,none⟩=(mchV xs[i])[j]?:=fun i hi j hj=>by
  rw [Nat.add_assoc,hcell _ (by omega)]
  exact flat_at (g:=mchV) (sz:=3) (fun _=>rfl) xs i j hi hj
 exact ⟨b,off,rfl,hc,hlt,fun i hi=>⟨key i hi 0 (by omega),key i hi 1 (by omega),key i hi 2 (by omega)⟩⟩
def TellsMs (x:Bool) (a b:List Mch):Prop:=x=true↔a=b
def smRel (a b:List MchX) (w:World) (iv:Value) (wr:World):Prop:=∃ k:Nat,iv=.int .i64 (k:Int)∧k≤a.length∧(a.map (·.1)).take k=(b.map (·.1)).take k∧Below w.heap.size w wr
set_option maxRecDepth 100000 in
set_option maxHeartbeats 4000000 in
theorem ref_Same18 (a b:List MchX) (ha:a.length≤100000000) (hb:b.length≤100000000) (hla:∀ x∈a,x.1.2.2.length≤1048576) (hlb:∀ x∈b,x.1.2.2.length≤1048576) (va vb:Value) (w:World) (h1:MchsIn w va a) (h2:MchsIn w vb b) :
  Calls Tryz.prog 34 #[va,vb] w fun e w'=>∃ x,e=.returned (.bool x)∧TellsMs x (a.map (·.1)) (b.map (·.1))∧Below w.heap.size w w':=by
 have HQ:RowKit.Hid (∀ x w',TellsMs x (a.map (·.1)) (b.map (·.1))→Below w.heap.size w w'→(fun (e:Ending) w'=>∃ x,e=.returned (.bool x)∧TellsMs x (a.map (·.1)) (b.map (·.1))∧Below w.heap.size w w') (.returned (.bool x)) w'):=Hd fun x w' h h2=>⟨x,rfl,h,h2⟩
 generalize (fun (e:Ending) w'=>∃ x,e=.returned (.bool x)∧TellsMs x (a.map (·.1)) (b.map (·.1))∧Below w.heap.size w w')=Q at *
 obtain ⟨aa,ac,rfl,hac⟩:=h1.shape
 obtain ⟨ba,bc,rfl,hbc⟩:=h2.shape
 have H1:=Hd h1
 have H2:=Hd h2
 have HLA:=Hd hla
 have HLB:=Hd hlb
 clear h1 h2 hla hlb
 by_cases hlen:a.length=b.length
 case neg =>
  have HX:=Hd (HQ.out false w ⟨(fun h=>by cases h),fun h=>absurd (by have:=congrArg List.length h;simpa using this) hlen⟩ (Below.refl _ _))
  have g1:((a.length:Int) != (b.length:Int))=true:=by rw [bne_iff_ne];omega
  have g2:(a.length != b.length)=true:=by rw [bne_iff_ne];exact hlen
  have g3:(a.length == b.length)=false:=by rw [beq_eq_false_iff_ne];exact hlen
  clear hlen
  go_enter Tryz.func34,Tryz.ntmps34
  go_wp2_with fail
  exact HX.out
 have HLEN:=Hd hlen
 have H2':RowKit.Hid (MchsIn w (.slice ba a.length bc) b):=Hd (by rw [hlen];exact H2.out)
 rw [← hlen]
 clear H2
 rw [← hlen] at hbc
 clear hlen
 go_enter Tryz.func34,Tryz.ntmps34
 go_wp2_with fail
 go_loopw [5] (fun iv wr=>smRel a b w iv wr) (fun iv _=>a.length-(intOf iv).toNat)
 case atStart=>exact ⟨0,rfl,Nat.zero_le _,rfl,Below.refl _ _⟩
 case round =>
  obtain ⟨k,rfl,hk,htk,hbl⟩:=hrel
  have HB:=Hd hbl
  have HTK:=Hd htk
  clear hbl htk
  by_cases hlt:k<a.length
  ·have hlb:k<b.length:=by have:=HLEN.out;omega
   obtain ⟨b1,o1,rfl,_,_,hc1⟩:=MchsIn.at H1.out HB.out (show 0<a.length by omega)
   obtain ⟨b2,o2,rfl,_,_,hc2⟩:=MchsIn.at H2'.out HB.out (show 0<b.length by omega)
   obtain ⟨c0,c1,c2⟩:=hc1 k hlt
   obtain ⟨d0,d1,d2⟩:=hc2 k hlb
   have hk0:(0:Int)≤(k:Int):=by omega
   have hkl:(k:Int)<a.length:=by omega
   have hka:(k:Int)<ac:=by omega
   have hkb:(k:Int)<bc:=by omega
   have e1:=H1.out.E _ (List.getElem_mem hlt)
   have e2:=H2'.out.E _ (List.getElem_mem hlb)
   have l1:=HLA.out _ (List.getElem_mem hlt)
   have l2:=HLB.out _ (List.getElem_mem hlb)
   have HYES:RowKit.Hid ((a[k]).1=(b[k]).1→(a.map (·.1)).take (k+1)=(b.map (·.1)).take (k+1)):=Hd (fun e=>by
    rw [take_snoc (by simpa using hlt),take_snoc (by simpa using hlb),HTK.out,List.getElem_map,List.getElem_map,e])
   have HNO:RowKit.Hid ((a[k]).1≠(b[k]).1→a.map (·.1)≠b.map (·.1)):=Hd (fun e h=>by
    have h3:(a.map (·.1))[k]?=(b.map (·.1))[k]?:=by rw [h]
    rw [List.getElem?_map,List.getElem?_map,List.getElem?_eq_getElem hlt,List.getElem?_eq_getElem hlb] at h3
    exact e (Option.some.inj h3))
   generalize a[k]=x at *
   generalize b[k]=y at *
   obtain ⟨⟨xr,xp,xb⟩,xv⟩:=x
   obtain ⟨⟨yr,yp,yb⟩,yv⟩:=y
   simp only [] at c0 c1 c2 d0 d1 d2 e1 e2 l1 l2 HYES HNO
   obtain ⟨xa,xc,rfl,hxc⟩:=Row.shape e1
   obtain ⟨ya,yc,rfl,hyc⟩:=Row.shape e2
   have HBd:=Hd HB.out.drew
   have CS:=Hd (ref_SameMatch ((xr:Int),(xp:Int),xb) ((yr:Int),(yp:Int),yb) l1 l2 _ _ wr.drew (e1.below HBd.out) (e2.below HBd.out))
   simp only [] at CS
   clear hc1 hc2 e1 e2
   go_upto_region 6 with (fail)
   go_still_tail 8,(by kernel_rfl)
   clear c0 c1 c2 d0 d1 d2
   go_wp2_with fail
   refine CS.out.mono ?_
   rintro e w2 ⟨x,rfl,ht,hb2⟩
   have HB2:=Hd (bthen HB.out (bthen (Below.refl _ _).drew hb2))
   cases x with
   | true =>
    have he:(xr,xp,xb)=(yr,yp,yb):=by
     have:=ht.1 rfl
     simp only [Prod.mk.injEq,Int.natCast_inj] at this
     simp only [Prod.mk.injEq]
     exact this
    have HR:RowKit.Hid (smRel a b w (.int .i64 ((k:Int)+1)) w2):=Hd ⟨k+1,by push_cast;rfl,hlt,HYES.out he,HB2.out⟩
    clear ht hb2 CS he
    go_wp2_with fail
    exact ⟨HR.out,by simp only [intOf];omega⟩
   | false =>
    have hne:(xr,xp,xb)≠(yr,yp,yb):=fun e=>by
     simp only [Prod.mk.injEq] at e
     have:=ht.2 (by simp only [Prod.mk.injEq,Int.natCast_inj];exact e)
     cases this
    have HX:=Hd (HQ.out false w2 ⟨(fun e=>by cases e),fun e=>absurd e (HNO.out hne)⟩ HB2.out)
    clear ht hb2 CS hne
    go_wp2_with fail
    exact HX.out
  ·have hkl:¬ (k:Int)<a.length:=by omega
   obtain rfl:k=a.length:=by omega
   have HX:=Hd (HQ.out true wr ⟨fun _=>by
    have:=HTK.out
    rw [List.take_of_length_le (by simp),List.take_of_length_le (by have:=HLEN.out;simp;omega)] at this;exact this,fun _=>rfl⟩ HB.out)
   go_wp2_with fail
   exact HX.out
end Go.Proofs.YtlkheofphafofaaGreatDoor
namespace Go.Proofs.YtlkheofphafofaaGreatDoor
set_option linter.all false
open Go.RowKit

structure HeldM (w:World):Prop where
 T:Tabs w
 M:MaxC w
theorem HeldM.below {w w':World} (h:HeldM w) (hb:Below w.heap.size w w'):HeldM w':=⟨h.T.below hb,h.M.below hb⟩
@[irreducible] def AnswersM (w:World) (e:Ending) (w':World):Prop:=e=.returned (.bool true)∧Below w.heap.size w w'
theorem AnswersM.mk {w w':World} (h:Below w.heap.size w w'):AnswersM w (.returned (.bool true)) w':=by unfold AnswersM;exact ⟨rfl,h⟩
theorem AnswersM.out {w w':World} {e:Ending} (h:AnswersM w e w'):e=.returned (.bool true)∧Below w.heap.size w w':=by unfold AnswersM at h;exact h
end Go.Proofs.YtlkheofphafofaaGreatDoor
namespace Go.Proofs.YtlkheofphafofaaGreatDoor
set_option linter.all false
attribute [local irreducible] Calls
open Go.RowKit

def bndO (r:RuleM) (o:Option MSt):List Bnd:=match o with
 | some τ=>bindsOf r.holes τ
 | none=>[]
def FlatP (r:RuleM) (o:Option MSt) (w0:World) (e:Ending) (w':World):Prop :=
 ∃ a c,e=.returned (.tuple #[.slice a (bndO r o).length c,.bool o.isSome])∧(bndO r o).length≤c∧BindRow w' (.slice a (bndO r o).length c) (bndO r o)∧Below w0.heap.size w0 w'
theorem atPost.flat {r:RuleM} {o:Option MSt} {w0 w':World} {e:Ending} (h:atPost r o w0 e w') (hl:∀ τ,o=some τ→(bindsOf r.holes τ).length=r.holes.length):FlatP r o w0 e w':=by
 unfold atPost at h
 obtain ⟨hb,h⟩:=h
 cases o with
 | none =>
  simp only [] at h
  subst h
  exact ⟨none,0,rfl,Nat.le_refl _,⟨rfl,none,0,rfl,Nat.le_refl _,fun _=>rfl,fun h=>absurd h (by simp [bndO])⟩,hb⟩
 | some τ =>
  simp only [] at h
  obtain ⟨vb,rfl,ho⟩:=h
  have e1:=hl τ rfl
  have h1:BindRow w' vb (bindsOf r.holes τ):=by unfold BindRow;rw [e1];exact Row.of_owns ho
  obtain ⟨a,c,rfl,hc⟩:=Row.shape h1
  exact ⟨a,c,rfl,hc,h1,hb⟩
end Go.Proofs.YtlkheofphafofaaGreatDoor
