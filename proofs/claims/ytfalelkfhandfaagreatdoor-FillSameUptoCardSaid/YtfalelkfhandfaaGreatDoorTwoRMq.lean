/- Two rows that grow: parts, and numbers. -/
import Derived.Test.YtfalelkfhandfaaGreatDoorTerm3Mq
import Derived.Test.YtfalelkfhandfaaGreatDoorAppEqMq
import Derived.Test.YtfalelkfhandfaaGreatDoorEachSMq
import Derived.Test.YtfalelkfhandfaaGreatDoorRightWMq
import Derived.Test.YtfalelkfhandfaaGreatDoorStillMq
import Derived.Deep.RegionHeld3
import Derived.Test.YtfalelkfhandfaaGreatDoorSeekFMq
import Derived.Test.YtfalelkfhandfaaGreatDoorRulesVMq
namespace Go.Proofs.YtfalelkfhandfaaGreatDoor
set_option linter.all false
open Go.RowKit

structure TwoR (B:Nat) (w0:World) (A:List Prt) (F:List Int) (ov nv:Value) (W:World):Prop where
 o:W.ownsRow B 38 3 ov A.length (zU A)
 n:W.ownsRow B 3 1 nv F.length (intsV F)
 b:Below B w0 W
 B:B≤W.heap.size
section
variable {B:Nat} {w0 W:World} {A:List Prt} {F:List Int} {ov nv:Value}
theorem TwoR.below {W':World} (h:TwoR B w0 A F ov nv W) (hb:Below W.heap.size W W'):TwoR B w0 A F ov nv W' :=
 ⟨zL h.o hb,zL h.n hb,h.b.trans (hb.mono h.B),Nat.le_trans h.B hb.size⟩
theorem TwoR.start (hb:Below B w0 W) (hB:B≤W.heap.size):TwoR B w0 [] [] (.slice none 0 0) (.slice none 0 0) W :=
 ⟨World.ownsRow_nil _ _ _ _,World.ownsRow_nil _ _ _ _,hb,hB⟩
end
end Go.Proofs.YtfalelkfhandfaaGreatDoor
namespace Go.Proofs.YtfalelkfhandfaaGreatDoor
set_option linter.all false
open Go Go.RowKit

abbrev It:=MchX×Nat
def itV (y:It):List Value:=[.int .i64 (y.1.1.1:Int),.int .i64 (y.1.1.2.1:Int),y.1.2,.int .i64 (y.2:Int)]
def itsV (ys:List It):List Value:=ys.flatMap itV
theorem zSi (ys:List It):(itsV ys).length=ys.length*4:=zBf (g:=itV) (sz:=4) (fun _=>rfl) ys
theorem zPg (ys:List It) (y:It):itsV (ys++[y])=itsV ys++itV y:=by simp [itsV]
theorem zVd (ys:List It) (k j:Nat) (hk:k<ys.length) (hj:j<4):(itsV ys)[k*4+j]?=(itV ys[k])[j]?:=vY (g:=itV) (sz:=4) (fun _=>rfl) ys k j hk hj
theorem zKf (y:It):∀ (ys:List It) (k:Nat),k<ys.length→((((itsV ys).set (k*4) (.int .i64 (y.1.1.1:Int))).set (k*4+1) (.int .i64 (y.1.1.2.1:Int))).set (k*4+2) y.1.2).set (k*4+3) (.int .i64 (y.2:Int))=itsV (ys.set k y)
 | [],k,h=>by simp at h
 | z::ys,0,h=>rfl
 | z::ys,k+1,h=>by
  have ih:=zKf y ys k (by simpa using h)
  rw [List.set_cons_succ,show itsV (z::ys.set k y)=itV z++itsV (ys.set k y) from rfl,← ih,show itsV (z::ys)=itV z++itsV ys from rfl,show (k+1)*4=k*4+1+1+1+1 by omega]
  rfl
theorem zPh (ys:List It) (k:Nat):(itsV ys).take (k*4)=itsV (ys.take k):=by
 induction k generalizing ys with
 | zero=>simp [itsV]
 | succ k ih =>
  cases ys with
  | nil=>simp [itsV]
  | cons z ys =>
   rw [List.take_succ_cons,show itsV (z::ys.take k)=itV z++itsV (ys.take k) from rfl,← ih,show itsV (z::ys)=itV z++itsV ys from rfl,show (k+1)*4=k*4+1+1+1+1 by omega]
   rfl
def swapI (ys:List It) (a b:Nat) (ha:a<ys.length) (hb:b<ys.length):List It:=(ys.set a ys[b]).set b ys[a]
theorem zGo (ys:List It) (a b:Nat) (ha hb):(swapI ys a b ha hb).length=ys.length:=by simp [swapI]
theorem zPi {ys:List It} {a b:Nat} {ha hb} {y:It} (h:y∈swapI ys a b ha hb):y∈ys:=by
 unfold swapI at h
 rcases List.mem_or_eq_of_mem_set h with h | rfl
 ·rcases List.mem_or_eq_of_mem_set h with h | rfl
  ·exact h
  ·exact List.getElem_mem _
 ·exact List.getElem_mem _
structure SameB (g:Nat) (W W':World):Prop where
 os:W'.os=W.os
 tape:W'.tape=W.tape
 output:W'.output=W.output
 size:W.heap.size≤W'.heap.size
 block:∀ k,k<W.heap.size→k≠g→W'.heap[k]?=W.heap[k]?
theorem SameB.refl (g:Nat) (W:World):SameB g W W:=⟨rfl,rfl,rfl,Nat.le_refl _,fun _ _ _=>rfl⟩
theorem SameB.of_below {g:Nat} {W W':World} (h:Below W.heap.size W W'):SameB g W W':=⟨h.os,h.tape,h.output,h.size,fun k hk _=>h.block k hk⟩
theorem SameB.trans {g:Nat} {a b c:World} (h:SameB g a b) (k:SameB g b c):SameB g a c :=
 ⟨k.os.trans h.os,k.tape.trans h.tape,k.output.trans h.output,Nat.le_trans h.size k.size,fun i h1 h2=>(k.block i (Nat.lt_of_lt_of_le h1 h.size) h2).trans (h.block i h1 h2)⟩
theorem SameB.setCell {g:Nat} {W W':World} (h:SameB g W W') (j:Nat) (u:Value):SameB g W (W'.setCell ⟨g,j,none⟩ u) :=
 ⟨h.os,h.tape,h.output,by simpa using h.size,fun k hk hne=>(heap_setCell_other _ _ _ _ hne).trans (h.block k hk hne)⟩
theorem SameB.drew {g:Nat} {W W':World} (h:SameB g W W'):SameB g W W'.drew:=⟨h.os,h.tape,h.output,h.size,h.block⟩
theorem SameB.below {g:Nat} {w W W':World} (hb:Below w.heap.size w W) (h:SameB g W W') (hg:w.heap.size≤g):Below w.heap.size w W' :=
 ⟨h.os.trans hb.os,h.tape.trans hb.tape,h.output.trans hb.output,Nat.le_trans hb.size h.size,fun k hk=>(h.block k (Nat.lt_of_lt_of_le hk hb.size) (by omega)).trans (hb.block k hk)⟩
structure KpQ (W W':World):Prop where
 size:W.heap.size≤W'.heap.size
 cells:∀ (k:Nat) (cs:Array Value) (T:TypeId) (fr:Nat×Nat),W.heap[k]?=some (.cells cs T fr)→T≠100→T≠97→W'.heap[k]?=W.heap[k]?
theorem KpQ.of_below {W W':World} (h:Below W.heap.size W W'):KpQ W W':=⟨h.size,fun k cs T fr hc _ _=>h.block k (zD hc)⟩
theorem KpQ.trans {a b c:World} (h:KpQ a b) (k:KpQ b c):KpQ a c :=
 ⟨Nat.le_trans h.size k.size,fun i cs T fr hc h1 h2=>by
  have e:=h.cells i cs T fr hc h1 h2
  exact (k.cells i cs T fr (e.trans hc) h1 h2).trans e⟩
theorem KpQ.of_same {g:Nat} {W W':World} (h:SameB g W W') {cs:Array Value} {T:TypeId} {fr:Nat×Nat} (hc:W.heap[g]?=some (.cells cs T fr)) (hT:T=100∨T=97):KpQ W W' :=
 ⟨h.size,fun k cs' T' fr' hc' h1 h2=>h.block k (zD hc') (fun e=>by
  subst e
  rw [hc] at hc'
  cases hc'
  rcases hT with hT | hT
  ·exact h1 hT
  ·exact h2 hT)⟩
theorem KpQ.row {W W':World} (h:KpQ W W') {C:Nat} {e:TypeId} {size n:Nat} {v:Value} {xs:List Value} (hr:W.ownsRow C e size v n xs) (h1:e≠100) (h2:e≠97):W'.ownsRow C e size v n xs:=by
 obtain ⟨g1,g2⟩:=hr
 refine ⟨g1,?_⟩
 rcases g2 with g2 | ⟨k,cap,cur,hv,hk,hh,r⟩
 ·exact Or.inl g2
 ·exact Or.inr ⟨k,cap,cur,hv,hk,(h.cells k _ _ _ hh h1 h2).trans hh,r⟩
abbrev ItRow (B:Nat) (W:World) (v:Value) (ys:List It):Prop:=W.ownsRow B 100 4 v ys.length (itsV ys)
theorem ItRow.shape {B:Nat} {W:World} {v:Value} {ys:List It} (h:ItRow B W v ys) (hp:0<ys.length):∃ g c,v=.slice (some ⟨g,0,none⟩) ys.length c∧B≤g∧g<W.heap.size∧∃ cs:Array Value,W.heap[g]?=some (.cells cs 100 (0,0)):=by
 rcases h.2 with ⟨_,h0⟩ | ⟨k,cap,cur,hv,hB,hh,_⟩
 ·omega
 ·exact ⟨k,cap,hv,hB,zD hh,cur,hh⟩
theorem ItRow.cells {B g c:Nat} {W:World} {n:Nat} {ys:List It} (h:W.ownsRow B 100 4 (.slice (some ⟨g,0,none⟩) n c) n (itsV ys)) (hn:n=ys.length) (k:Nat) (hk:k<ys.length) :
  (W.cell? ⟨g,k*4,none⟩=some (.int .i64 (ys[k].1.1.1:Int))∧W.cell? ⟨g,k*4+1,none⟩=some (.int .i64 (ys[k].1.1.2.1:Int))∧W.cell? ⟨g,k*4+2,none⟩=some ys[k].1.2∧W.cell? ⟨g,k*4+3,none⟩=some (.int .i64 (ys[k].2:Int)))∧∀ j,W.frozen? ⟨g,j,none⟩=false:=by
 subst hn
 have key:∀ j,j<4→W.cell? ⟨g,k*4+j,none⟩=(itV ys[k])[j]?:=fun j hj=>by
  rw [h.cellAt (k*4+j) (by omega),zVd ys k j hk hj]
 exact ⟨⟨key 0 (by omega),key 1 (by omega),key 2 (by omega),key 3 (by omega)⟩,fun j=>h.frozenAt j⟩
theorem ItRow.put {B g c n:Nat} {W:World} {ys:List It} (h:W.ownsRow B 100 4 (.slice (some ⟨g,0,none⟩) n c) n (itsV ys)) (k:Nat) (hk:k<ys.length) (y:It) :
  ((((W.setCell ⟨g,k*4,none⟩ (.int .i64 (y.1.1.1:Int))).setCell ⟨g,k*4+1,none⟩ (.int .i64 (y.1.1.2.1:Int))).setCell ⟨g,k*4+2,none⟩ y.1.2).setCell ⟨g,k*4+3,none⟩ (.int .i64 (y.2:Int))).ownsRow B 100 4 (.slice (some ⟨g,0,none⟩) n c) n (itsV (ys.set k y)):=by
 have hl:=zSi ys
 rw [← zKf y ys k hk]
 exact xH (xH (xH (xH h (k*4) (by omega) _) (k*4+1) (by rw [List.length_set];omega) _) (k*4+2) (by rw [List.length_set,List.length_set];omega) _) (k*4+3) (by rw [List.length_set,List.length_set,List.length_set];omega) _
structure QIn (w:World) (gq:Nat) (ys:List It) (W:World):Prop where
 below:Below w.heap.size w W
 lo:w.heap.size≤gq
 row:∃ v,W.heap[gq]?=some (.cells #[v] 97 (0,0))∧ItRow w.heap.size W v ys
section
variable {w W W':World} {gq:Nat} {ys:List It}
theorem QIn.ext (h:QIn w gq ys W) (hb:Below W.heap.size W W'):QIn w gq ys W':=by
 obtain ⟨v,h1,h2⟩:=h.row
 exact ⟨zB h.below hb,h.lo,v,keeps hb h1,zL h2 hb⟩
theorem QIn.cell (h:QIn w gq ys W):∃ a c,W.heap[gq]?=some (.cells #[.slice a ys.length c] 97 (0,0))∧W.cell? ⟨gq,0,none⟩=some (.slice a ys.length c)∧W.frozen? ⟨gq,0,none⟩=false∧ItRow w.heap.size W (.slice a ys.length c) ys∧ys.length≤c:=by
 obtain ⟨v,h1,h2⟩:=h.row
 obtain ⟨_,a,c,rfl,hc,_⟩:=Row.of_owns h2
 exact ⟨a,c,h1,by simp [World.cell?,h1],by simp [World.frozen?,h1],h2,hc⟩
theorem QIn.other (h:QIn w gq ys W) (hb:Below w.heap.size w W') (hk:∀ (k:Nat) (cs:Array Value) (T:TypeId) (fr:Nat×Nat),W.heap[k]?=some (.cells cs T fr)→(T=100∨T=97)→W'.heap[k]?=W.heap[k]?):QIn w gq ys W':=by
 obtain ⟨v,h1,h2⟩:=h.row
 exact ⟨hb,h.lo,v,(hk _ _ _ _ h1 (Or.inr rfl)).trans h1,yJ h2 (fun k cs fr hc=>hk _ _ _ _ hc (Or.inl rfl))⟩
theorem QIn.turn (h:QIn w gq ys W) {g c:Nat} {zs:List It} (hc:W.heap[gq]?=some (.cells #[.slice (some ⟨g,0,none⟩) ys.length c] 97 (0,0))) (hr:ItRow w.heap.size W (.slice (some ⟨g,0,none⟩) ys.length c) ys) (hp:0<ys.length) (hz:W'.ownsRow w.heap.size 100 4 (.slice (some ⟨g,0,none⟩) ys.length c) ys.length (itsV zs)) (hl:zs.length=ys.length) (hs:SameB g W W'):QIn w gq zs W'∧KpQ W W':=by
 obtain ⟨g',c',e,hB,hlt,cs,hg⟩:=ItRow.shape hr hp
 simp only [Value.slice.injEq,Option.some.injEq,Addr.mk.injEq,and_true,true_and] at e
 obtain ⟨rfl,rfl⟩:=e
 have hne:gq≠g:=fun e=>by subst e;rw [hc] at hg;cases hg
 refine ⟨⟨SameB.below h.below hs hB,h.lo,.slice (some ⟨g,0,none⟩) ys.length c,(hs.block gq (zD hc) hne).trans hc,by unfold ItRow;rw [hl];exact hz⟩,KpQ.of_same hs hg (Or.inl rfl)⟩
theorem QIn.pop (h:QIn w gq ys W) {a:Option Addr} {n c:Nat} (hc:W.heap[gq]?=some (.cells #[.slice a (n+1) c] 97 (0,0))) (hl:ys.length=n+1) (hr:ItRow w.heap.size W (.slice a ys.length c) ys) :
  QIn w gq (ys.take n) (W.setCell ⟨gq,0,none⟩ (.slice a n c))∧KpQ W (W.setCell ⟨gq,0,none⟩ (.slice a n c)):=by
 have hne:∀ (k:Nat) (cs:Array Value) (fr:Nat×Nat),W.heap[k]?=some (.cells cs 100 fr)→k≠gq:=fun k cs fr hk e=>by subst e;rw [hc] at hk;cases hk
 have hs:SameB gq W (W.setCell ⟨gq,0,none⟩ (.slice a n c)):=(SameB.refl gq W).setCell 0 _
 refine ⟨⟨hs.below h.below h.lo,h.lo,.slice a n c,heap_setCell_same W gq 0 _ _ _ hc,?_⟩,KpQ.of_same hs hc (Or.inr rfl)⟩
 have h1:=kT (k:=n) hr (by omega)
 rw [zPh] at h1
 have hlt:(ys.take n).length=n:=by rw [List.length_take];omega
 unfold ItRow
 rw [hlt]
 exact yJ h1 (fun k cs fr hk=>heap_setCell_other _ _ _ _ (hne k cs fr hk))
theorem zMp:(Tryz.prog.info? 100).map (fun i=>(i.zero,i.size,i.bytes))=some (some (.agg #[.int .i64 0,.int .i64 0,.slice none 0 0,.int .i64 0]),4,48):=by kernel_rfl
end
end Go.Proofs.YtfalelkfhandfaaGreatDoor
namespace Go.Proofs.YtfalelkfhandfaaGreatDoor
set_option linter.all false
attribute [local irreducible] Calls
attribute [local irreducible] wpStill
open Go.RowKit

structure MchsIn (w:World) (v:Value) (xs:List MchX):Prop where
 R:Row w v xs.length 3 (mchsV xs)
 E:∀ x∈xs,BindRow w x.2 x.1.2.2
theorem MchsIn.below {w w':World} {v:Value} {xs:List MchX} (h:MchsIn w v xs) (hb:Below w.heap.size w w'):MchsIn w' v xs:=⟨Row.below h.R hb,fun x hx=>(h.E x hx).below hb⟩
theorem MchsIn.shape {w:World} {v:Value} {xs:List MchX} (h:MchsIn w v xs):∃ a cap,v=.slice a xs.length cap∧xs.length≤cap:=Row.shape h.R
theorem MchsIn.at {w w':World} {a:Option Addr} {n cap:Nat} {xs:List MchX} (h:MchsIn w (.slice a n cap) xs) (hb:Below w.heap.size w w') (hp:0<xs.length) :
  ∃ b off,a=some ⟨b,off,none⟩∧xs.length≤cap∧b<w.heap.size∧∀ i (hi:i<xs.length),
   w'.cell? ⟨b,off+i*3,none⟩=some (.int .i64 (xs[i].1.1:Int))∧w'.cell? ⟨b,off+i*3+1,none⟩=some (.int .i64 (xs[i].1.2.1:Int))∧w'.cell? ⟨b,off+i*3+2,none⟩=some xs[i].2:=by
 obtain ⟨b,off,cap',hv,hc,hlt,hcell⟩:=Row.cells h.R hb hp
 simp only [Value.slice.injEq] at hv
 obtain ⟨rfl,rfl,rfl⟩:=hv
 have key:∀ i (hi:i<xs.length) (j:Nat),j<3→w'.cell? ⟨b,off+i*3+j,none⟩=(mchV xs[i])[j]?:=fun i hi j hj=>by
  rw [Nat.add_assoc,hcell _ (by omega)]
  exact vY (g:=mchV) (sz:=3) (fun _=>rfl) xs i j hi hj
 exact ⟨b,off,rfl,hc,hlt,fun i hi=>⟨key i hi 0 (by omega),key i hi 1 (by omega),key i hi 2 (by omega)⟩⟩
end Go.Proofs.YtfalelkfhandfaaGreatDoor
namespace Go.Proofs.YtfalelkfhandfaaGreatDoor
set_option linter.all false
open Go Go.RowKit

def sameR (r:RuleM):RuleM:={ r with by':=byS r }
theorem zTy (r:RuleM):(sameR r).by'=byS (sameR r):=rfl
theorem zLf {r:RuleM} (h:SmallR r) (hf:r.fnd.length+1≤1048576):SmallR (sameR r):=by
 refine ⟨h.n,h.g,h.h,h.f,?_⟩
 show SmallL (byS r)
 unfold byS
 split
 ·refine ⟨by rw [List.length_cons];exact hf,fun p hp=>?_⟩
  rcases List.mem_cons.1 hp with rfl | hp
  ·exact ⟨by decide,by decide⟩
  ·exact h.f.2 p hp
 ·exact h.f
structure SmX (w:World) (x:RuleX) (W:World):Prop where
 H:HoleRow w x.2.1 x.1.holes
 F:zG w x.2.2.1 x.1.fnd
 B:W.ownsRow w.heap.size 38 3 x.2.2.2 x.1.by'.length (zU x.1.by')
structure SmIn (w:World) (sv:Value) (xs:List RuleX) (W:World):Prop where
 below:Below w.heap.size w W
 R:W.ownsRow w.heap.size 36 5 sv xs.length (xs.flatMap ruleV)
 E:∀ x∈xs,SmX w x W
theorem SmX.ext {w:World} {x:RuleX} {W W':World} (h:SmX w x W) (hb:Below W.heap.size W W'):SmX w x W':=⟨h.H,h.F,zL h.B hb⟩
theorem SmIn.ext {w:World} {sv:Value} {xs:List RuleX} {W W':World} (h:SmIn w sv xs W) (hb:Below W.heap.size W W'):SmIn w sv xs W':=⟨zB h.below hb,zL h.R hb,fun x hx=>(h.E x hx).ext hb⟩
theorem SmIn.rules {w:World} {sv:Value} {xs:List RuleX} {W:World} (h:SmIn w sv xs W):yY W sv xs :=
 ⟨Row.of_owns h.R,fun x hx=>⟨(h.E x hx).H.below h.below,(h.E x hx).F.below h.below,Row.of_owns (h.E x hx).B⟩⟩
theorem zNo:(Tryz.prog.info? 36).map (fun i=>(i.zero,i.size,i.bytes))=some (some (.agg #[.string ⟨#[]⟩,.int .u8 0,.slice none 0 0,.slice none 0 0,.slice none 0 0]),5,96):=by kernel_rfl
theorem zQs {X:World} {vf:Value} {f:List Prt} (hf:zG X vf f) (hl:f.length≤1048576) :
  ∃ va vn vc X1,(Builtin.append_ #[23,23] 23 #[.slice (some ⟨X.heap.size,0,none⟩) 0 0,vf]).run Tryz.prog (X.alloc (.cells #[] 38))=.ok (.slice va vn vc) X1∧X1.ownsRow X.heap.size 38 3 (.slice va vn vc) f.length (zU f)∧Below X.heap.size X X1:=by
 have hb:Below X.heap.size X (X.alloc (.cells #[] 38)):=(Below.refl _ _).alloc (Nat.le_refl _) _
 have ho:=zDl X X.heap.size 38 3 (Nat.le_refl _)
 obtain ⟨v1,X1,r1,o1,g1,_⟩:=vH (P:=Tryz.prog) (X.alloc (.cells #[] 38)) 23 23 38 Tryz.underlying23 X.heap.size kA rfl (by decide) _ 0 [] ho vf f.length (zU f) (hf.below hb) (jV f) (by omega) (by omega) hb.size
 rw [Nat.zero_add,List.nil_append] at o1
 obtain ⟨va,vn,vc,rfl⟩:=zC o1
 exact ⟨va,vn,vc,X1,r1,o1,xT hb hb.size ho g1⟩
theorem zQt {X:World} {B:Nat} {v:Value} {f:List Prt} (hf:X.ownsRow B 38 3 v f.length (zU f)) (hl:f.length≤1048576) :
  ∃ va vn vc X1,(Builtin.append_ #[23,23] 23 #[.slice (some ⟨X.heap.size,0,none⟩) 1 1,v]).run Tryz.prog (X.alloc (.cells #[.int .u8 13,.int .i64 1,.string ⟨#[]⟩] 38))=.ok (.slice va vn vc) X1∧X1.ownsRow X.heap.size 38 3 (.slice va vn vc) (rootP::f).length (zU (rootP::f))∧Below X.heap.size X X1:=by
 have hb:Below X.heap.size X (X.alloc (.cells #[.int .u8 13,.int .i64 1,.string ⟨#[]⟩] 38)):=(Below.refl _ _).alloc (Nat.le_refl _) _
 have ho:(X.alloc (.cells #[.int .u8 13,.int .i64 1,.string ⟨#[]⟩] 38)).ownsRow X.heap.size 38 3 (.slice (some ⟨X.heap.size,0,none⟩) 1 1) 1 (zU [rootP]) :=
  ⟨rfl,Or.inr ⟨X.heap.size,1,_,rfl,Nat.le_refl _,heap_alloc_new _ _,Nat.le_refl _,by unfold maxLen;omega,by simp,rfl⟩⟩
 obtain ⟨v1,X1,r1,o1,g1,_⟩:=vH (P:=Tryz.prog) _ 23 23 38 Tryz.underlying23 X.heap.size kA rfl (by decide) _ 1 _ ho v f.length (zU f) (Row.of_owns (zL hf hb)) (jV f) (by omega) (by omega) hb.size
 obtain ⟨va,vn,vc,rfl⟩:=zC o1
 refine ⟨va,vn,vc,X1,r1,?_,xT hb hb.size ho g1⟩
 rw [← yF] at o1
 rw [List.length_cons,Nat.add_comm]
 exact o1
theorem SmIn.push {w X:World} {sv:Value} {xs:List RuleX} (h:SmIn w sv xs X) (hn:xs.length≤1048576) (x:RuleX) (hx:SmX w x X) (h3:∃ s m t,x.2.1=.slice s m t) (h4:∃ s m t,x.2.2.1=.slice s m t) (h5:∃ s m t,x.2.2.2=.slice s m t) :
  ∃ va vn vc X1,(Builtin.append_ #[22,22] 22 #[sv,.slice (some ⟨X.heap.size,0,none⟩) 1 1]).run Tryz.prog (X.alloc (.cells #[.string x.1.nm,.int .u8 (x.1.goal:Int),x.2.1,x.2.2.1,x.2.2.2] 36))=.ok (.slice va vn vc) X1∧SmIn w (.slice va vn vc) (xs++[x]) X1:=by
 have hs:=h.below.size
 obtain ⟨v1,w1,r1,o1,g1,p1⟩:=yH (P:=Tryz.prog) X #[.string x.1.nm,.int .u8 (x.1.goal:Int),x.2.1,x.2.2.1,x.2.2.2] 36 22 22 36 Tryz.underlying22 w.heap.size zNo rfl (by decide) sv xs.length _ h.R 1 1 rfl (Nat.le_refl _)
  (by
   obtain ⟨s3,m3,t3,e3⟩:=h3
   obtain ⟨s4,m4,t4,e4⟩:=h4
   obtain ⟨s5,m5,t5,e5⟩:=h5
   intro u hu;simp at hu;rcases hu with rfl | rfl | rfl | rfl | rfl
   ·rfl
   ·rfl
   ·rw [e3];rfl
   ·rw [e4];rfl
   ·rw [e5];rfl) (by omega) (by omega) hs
 obtain ⟨va,vn,vc,rfl⟩:=zC o1
 have ba:Below X.heap.size X (X.alloc (.cells #[.string x.1.nm,.int .u8 (x.1.goal:Int),x.2.1,x.2.2.1,x.2.2.2] 36)):=(Below.refl _ _).alloc (Nat.le_refl _) _
 have ra:=zL h.R ba
 have hbl:=xT (zB h.below ba) (by have:=ba.size;omega) ra g1
 have hB:∀ y:RuleX,SmX w y X→SmX w y w1:=fun y hy=>⟨hy.H,hy.F,yJ (zL hy.B ba) (fun k cs fr hk=>by
  refine g1.block k (zD hk) (fun e1=>?_)
  rcases ra.2 with ⟨hv,_⟩ | ⟨g,cap,cur,hv,_,hh,_⟩
  ·rw [hv] at e1;simp [Value.ownBlock] at e1
  ·rw [hv] at e1
   simp [Value.ownBlock] at e1
   subst e1
   rw [hk] at hh
   cases hh)⟩
 refine ⟨va,vn,vc,w1,r1,hbl,?_,fun y hy=>?_⟩
 ·rw [List.length_append,List.flatMap_append,show [x].flatMap ruleV=(#[.string x.1.nm,.int .u8 (x.1.goal:Int),x.2.1,x.2.2.1,x.2.2.2]:Array Value).toList by simp [ruleV]]
  exact o1
 ·rcases List.mem_append.1 hy with hy | hy
  ·exact hB y (h.E y hy)
  ·obtain rfl:=List.mem_singleton.1 hy
   exact hB _ hx
end Go.Proofs.YtfalelkfhandfaaGreatDoor
