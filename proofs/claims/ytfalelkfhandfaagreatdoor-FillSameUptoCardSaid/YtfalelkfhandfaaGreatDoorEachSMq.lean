/- Layer 18: what find.each holds in memory. -/
import Derived.Test.YtfalelkfhandfaaGreatDoorFindQMq
import Derived.Test.YtfalelkfhandfaaGreatDoorRulesVMq
import Derived.Test.YtfalelkfhandfaaGreatDoorAtSMq
import Derived.Test.YtfalelkfhandfaaGreatDoorRuleCheckMq
import Derived.Test.YtfalelkfhandfaaGreatDoorRangeMMq
namespace Go.Proofs.YtfalelkfhandfaaGreatDoor
set_option linter.all false
open Go.RowKit

abbrev MchX:=Mch×Value
def mchV (x:MchX):List Value:=[.int .i64 (x.1.1:Int),.int .i64 (x.1.2.1:Int),x.2]
def mchsV (xs:List MchX):List Value:=xs.flatMap mchV
theorem zMj (xs:List MchX) (x:MchX):mchsV (xs++[x])=mchsV xs++mchV x:=by simp [mchsV]
def encM (x:MchX):Array Value:=#[.agg #[.int .i64 (x.1.1:Int),.int .i64 (x.1.2.1:Int),x.2]]
def MemM (B:Nat) (x:MchX) (W:World):Prop:=W.ownsRow B 52 3 x.2 x.1.2.2.length (bindsV x.1.2.2)
def MemR (B n:Nat) (x:MchX) (W:World):Prop:=MemM B x W∧x.1.1<n
structure KpF (B:Nat) (bx:Option Nat) (W W':World):Prop where
 os:W'.os=W.os
 tape:W'.tape=W.tape
 output:W'.output=W.output
 size:W.heap.size≤W'.heap.size
 low:∀ k,k<B→k<W.heap.size→W'.heap[k]?=W.heap[k]?
 cells:∀ k cs T fr,W.heap[k]?=some (.cells cs T fr)→T≠47→T≠24→some k≠bx→W'.heap[k]?=W.heap[k]?
theorem KpF.of_below {B:Nat} {bx:Option Nat} {W W':World} (h:Below W.heap.size W W'):KpF B bx W W' :=
 ⟨h.os,h.tape,h.output,h.size,fun k _ hk=>h.block k hk,fun k cs T fr hc _ _ _=>h.block k (zD hc)⟩
theorem KpF.trans {B:Nat} {bx:Option Nat} {a b c:World} (h:KpF B bx a b) (k:KpF B bx b c):KpF B bx a c :=
 ⟨k.os.trans h.os,k.tape.trans h.tape,k.output.trans h.output,Nat.le_trans h.size k.size,fun i h1 h2=>(k.low i h1 (Nat.lt_of_lt_of_le h2 h.size)).trans (h.low i h1 h2),
  fun i cs T fr hc h1 h2 h3=>by
   have e:=h.cells i cs T fr hc h1 h2 h3
   exact (k.cells i cs T fr (e.trans hc) h1 h2 h3).trans e⟩
theorem KpF.put {B:Nat} {bx:Option Nat} {W:World} {D:Nat} {r:Loop} (o:Obj) (hB:B≤D) (h:W.heap[D]?=some (.loop r)):KpF B bx W (W.putObj D o) :=
 ⟨rfl,rfl,rfl,by simp [World.putObj],fun k h1 _=>World.putObj_heap_other (by omega),fun k cs T fr hc _ _ _=>World.putObj_heap_other (fun e=>by subst e;rw [h] at hc;cases hc)⟩
theorem KpF.below {bx:Option Nat} {w W W':World} (hb:Below w.heap.size w W) (h:KpF w.heap.size bx W W'):Below w.heap.size w W' :=
 ⟨h.os.trans hb.os,h.tape.trans hb.tape,h.output.trans hb.output,Nat.le_trans hb.size h.size,fun k hk=>(h.low k hk (Nat.lt_of_lt_of_le hk hb.size)).trans (hb.block k hk)⟩
theorem KpF.row {B:Nat} {bx:Option Nat} {W W':World} (h:KpF B bx W W') {C:Nat} {e:TypeId} {size n:Nat} {v:Value} {xs:List Value} (hr:W.ownsRow C e size v n xs) (h1:e≠47) (h2:e≠24) (hx:∀ k,bx=some k→k<C):W'.ownsRow C e size v n xs:=by
 obtain ⟨g1,g2⟩:=hr
 refine ⟨g1,?_⟩
 rcases g2 with g2 | ⟨k,cap,cur,hv,hk,hh,r⟩
 ·exact Or.inl g2
 ·exact Or.inr ⟨k,cap,cur,hv,hk,(h.cells k _ _ _ hh h1 h2 (fun e=>by have:=hx k e.symm;omega)).trans hh,r⟩
structure EchW (w:World) (m:Nat) (bx:Option Nat) (cl cr:Nat) (vl vr:Value) (W:World):Prop where
 below:Below w.heap.size w W
 L:W.heap[cl]?=some (.cells #[vl] 23 (0,0))
 R:W.heap[cr]?=some (.cells #[vr] 22 (0,0))
 lt:m≤cl∧m≤cr∧w.heap.size≤m
 bx:∀ k,bx=some k→k<m
theorem EchW.ext {w:World} {m:Nat} {bx:Option Nat} {cl cr:Nat} {vl vr:Value} {W W':World} (h:EchW w m bx cl cr vl vr W) (hb:Below W.heap.size W W'):EchW w m bx cl cr vl vr W' :=
 ⟨zB h.below hb,keeps hb h.L,keeps hb h.R,h.lt,h.bx⟩
theorem EchW.kp {w:World} {m:Nat} {bx:Option Nat} {cl cr:Nat} {vl vr:Value} {W W':World} (h:EchW w m bx cl cr vl vr W) (k:KpF w.heap.size bx W W'):EchW w m bx cl cr vl vr W' :=
 ⟨k.below h.below,(k.cells _ _ _ _ h.L (by decide) (by decide) (fun e=>by have:=h.bx _ e.symm;have:=h.lt;omega)).trans h.L,(k.cells _ _ _ _ h.R (by decide) (by decide) (fun e=>by have:=h.bx _ e.symm;have:=h.lt;omega)).trans h.R,h.lt,h.bx⟩
theorem EchW.cells {w:World} {m:Nat} {bx:Option Nat} {cl cr:Nat} {vl vr:Value} {W:World} (h:EchW w m bx cl cr vl vr W):W.cell? ⟨cl,0,none⟩=some vl∧W.cell? ⟨cr,0,none⟩=some vr:=by
 simp only [World.cell?,h.L,h.R]
 exact ⟨rfl,rfl⟩
theorem EchW.part {w:World} {m:Nat} {bx:Option Nat} {cl cr:Nat} {vl vr:Value} {W W':World} (h:EchW w m bx cl cr vl vr W) (k:KpF w.heap.size bx W W') {g:Nat} {p:Prt} (hg:m≤g) (hp:PK W g p):PK W' g p:=by
 unfold PK at *
 exact (k.cells _ _ _ _ hp (by decide) (by decide) (fun e=>by have:=h.bx _ e.symm;omega)).trans hp
theorem EchW.rule {w:World} {m:Nat} {bx:Option Nat} {cl cr:Nat} {vl vr:Value} {W W':World} (h:EchW w m bx cl cr vl vr W) (k:KpF w.heap.size bx W W') {g:Nat} {nm:ByteArray} {goal:Nat} {vh vf vb:Value} (hg:m≤g) (hp:RK W g nm goal vh vf vb):RK W' g nm goal vh vf vb:=by
 unfold RK at *
 exact (k.cells _ _ _ _ hp (by decide) (by decide) (fun e=>by have:=h.bx _ e.symm;omega)).trans hp
theorem zJy (rules:List RuleM) (l:List Prt) (i n:Nat):(oneM rules l i n).length≤1:=by
 unfold oneM
 split
 ·split <;> simp
 ·simp
theorem zDd {α β:Type} {g:α→List β} {c:Nat}:∀ {xs:List α},(∀ a∈xs,(g a).length≤c)→(xs.flatMap g).length≤xs.length*c
 | [],_=>by simp
 | a::xs,h=>by
  rw [List.flatMap_cons,List.length_append,List.length_cons,Nat.add_mul]
  have h1:=h a (by simp)
  have h2:=zDd (g:=g) (c:=c) (xs:=xs) (fun b hb=>h b (by simp [hb]))
  omega
theorem zJz (rules:List RuleM) (l:List Prt) (i n:Nat):(accM rules l i n).length≤i*rules.length+n:=by
 unfold accM
 rw [List.length_append]
 have h1:=zDd (g:=oneM rules l i) (c:=1) (xs:=List.range n) (fun a _=>zJy _ _ _ _)
 have h2:=zDd (g:=atM rules l) (c:=rules.length) (xs:=List.range i) (fun a _=>by
  unfold atM
  have:=zDd (g:=oneM rules l a) (c:=1) (xs:=List.range rules.length) (fun b _=>zJy _ _ _ _)
  simpa using this)
 rw [List.length_range] at h1 h2
 omega
theorem yJ {W W':World} {B:Nat} {e:TypeId} {size n:Nat} {v:Value} {xs:List Value} (h:W.ownsRow B e size v n xs) (hk:∀ (k:Nat) (cs:Array Value) (fr:Nat×Nat),W.heap[k]?=some (.cells cs e fr)→W'.heap[k]?=W.heap[k]?):W'.ownsRow B e size v n xs:=by
 obtain ⟨g1,g2⟩:=h
 refine ⟨g1,?_⟩
 rcases g2 with g2 | ⟨k,cap,cur,hv,hB,hh,r⟩
 ·exact Or.inl g2
 ·exact Or.inr ⟨k,cap,cur,hv,hB,(hk k _ _ hh).trans hh,r⟩
end Go.Proofs.YtfalelkfhandfaaGreatDoor
