/- Rules in a row, as memory holds them. -/
import Derived.Test.YtbjkdmbcpkopjaaGreatDoorRuleVMt
import Derived.Test.YtbjkdmbcpkopjaaGreatDoorSeekMMt
import Derived.Test.YtbjkdmbcpkopjaaGreatDoorChkPMt
import Derived.Test.YtbjkdmbcpkopjaaGreatDoorAppEqMt
import Derived.Test.YtbjkdmbcpkopjaaGreatDoorMapUMt
import Derived.Test.YtbjkdmbcpkopjaaGreatDoorRuleCheckMt
namespace Go.Proofs.YtbjkdmbcpkopjaaGreatDoor
set_option linter.all false
open Go.RowKit

abbrev RuleX:=RuleM×Value×Value×Value
def ruleV (x:RuleX):List Value:=[.string x.1.nm,.int .u8 (x.1.goal:Int),x.2.1,x.2.2.1,x.2.2.2]
structure xM (w:World) (v:Value) (rs:List RuleX):Prop where
 R:Row w v rs.length 5 (rs.flatMap ruleV)
 E:∀ x∈rs,RuleIn w x.1 x.2.1 x.2.2.1 x.2.2.2
theorem xM.below {w w':World} {v:Value} {rs:List RuleX} (h:xM w v rs) (hb:Below w.heap.size w w'):xM w' v rs:=⟨Row.below h.R hb,fun x hx=>(h.E x hx).below hb⟩
theorem xM.shape {w:World} {v:Value} {rs:List RuleX} (h:xM w v rs):∃ a cap,v=.slice a rs.length cap∧rs.length≤cap:=Row.shape h.R
theorem xM.at {w w':World} {a:Option Addr} {n cap:Nat} {rs:List RuleX} (h:xM w (.slice a n cap) rs) (hb:Below w.heap.size w w') (hp:0<rs.length) :
  ∃ b off,a=some ⟨b,off,none⟩∧n=rs.length∧rs.length≤cap∧b<w.heap.size∧∀ i (hi:i<rs.length),
   w'.cell? ⟨b,off+i*5,none⟩=some (.string rs[i].1.nm)∧w'.cell? ⟨b,off+i*5+1,none⟩=some (.int .u8 (rs[i].1.goal:Int))∧w'.cell? ⟨b,off+i*5+2,none⟩=some rs[i].2.1∧w'.cell? ⟨b,off+i*5+3,none⟩=some rs[i].2.2.1∧w'.cell? ⟨b,off+i*5+4,none⟩=some rs[i].2.2.2:=by
 obtain ⟨b,off,cap',hv,hc,hlt,hcell⟩:=Row.cells h.R hb hp;simp only [Value.slice.injEq] at hv;obtain ⟨rfl,rfl,rfl⟩:=hv;have key:∀ i (hi:i<rs.length) (j:Nat),j<5→w'.cell? ⟨b,off+i*5+j,none⟩=(ruleV rs[i])[j]?:=fun i hi j hj=>by
  rw [Nat.add_assoc,hcell _ (by omega)];exact vO (g:=ruleV) (sz:=5) (fun _=>rfl) rs i j hi hj
 refine ⟨b,off,rfl,rfl,hc,hlt,fun i hi=>⟨?_,?_,?_,?_,?_⟩⟩
 ·exact key i hi 0 (by omega)
 ·exact key i hi 1 (by omega)
 ·exact key i hi 2 (by omega)
 ·exact key i hi 3 (by omega)
 ·exact key i hi 4 (by omega)
theorem yAe (E:SkE) (ok:SkOK E) (h7:∀ x∈E.hs,1≤x.2∧x.2≤7):∀ n,PartC E n∧KidsC E n
 | 0=>⟨(fun w σ p i K tv hi hp hil hn ht=>by have:=(zP (zJ ok.hf.well) hp).1;omega),(fun w σ p pend i iend K tv J M hi hpe hJ hie hM hn ht=>by omega)⟩
 | n+1=>by
  obtain ⟨h1,h2⟩:=yAe E ok h7 n;constructor
  ·intro w σ p i K tv hi hp hil hn ht;cases ho:oneOf E.f E.hs p with
   | some h=>exact zPg E ok h7 n w σ p i K tv hi hp hil ht h ho
   | none=>exact zMc E ok n h2 w σ p i K tv hi hp hil hn ht ho
  ·intro w σ p pend i iend K tv J M hi hpe hJ hie hM hn ht;by_cases hpp:p=pend
   ·subst hpp;exact zPh E ok n w σ p i iend K tv hi hpe hie (by have:=yY (zJ ok.hl) _ _ _ _ hie hM;omega) ht
   ·cases hs:sevOf E.f E.hs p with
    | none=>exact zPj E ok n h1 h2 w σ p pend i iend K tv J M hi hpe hJ hie hM hn ht hpp hs
    | some h=>exact zPk E ok n h1 h2 w σ p pend i iend K tv J M hi hpe hJ hie hM hn ht hpp h hs
theorem yDa (E:SkE) (ok:SkOK E) (h7:∀ x∈E.hs,1≤x.2∧x.2≤7) (w:World) (i:Nat) (tv:Value) (hi:SkIn E (startS E.hs) w) (hil:i<E.l.length) (ht:ThenOK E some tv w) :
  Calls Tryz.prog 52 #[.pointer (some ⟨E.g,0,none⟩),.int .i64 0,.int .i64 (i:Int),tv] w (seekPost E ((aPart E.f E.l E.hs (fuelZ E.f) 0 i (startS E.hs)).head?) (startS E.hs) w):=by
 have h0:=xT ok.hf.well;have:=(yAe E ok h7 (fuelZ E.f)).1 w (startS E.hs) 0 i some tv hi h0.1 hil (by rw [h0.2];unfold fuelZ;omega) ht;rw [(yCh E.f E.l E.hs (fuelZ E.f)).1] at this;have e:∀ (l:List MSt),l.findSome? some=l.head?:=fun l=>by cases l <;> simp [List.findSome?_cons]
 rw [e] at this;exact this
theorem jA {w w':World} {B:Nat} {e:TypeId} {size n:Nat} {v:Value} {xs:List Value} (h:w.ownsRow B e size v n xs) (hg:w.grownBy w' v.ownBlock) {g:Nat} {cs:Array Value} {t:TypeId} {fr:Nat×Nat} (hb:w.heap[g]?=some (.cells cs t fr)) (ht:t≠e) :
  w'.heap[g]?=some (.cells cs t fr):=by
 rw [hg.block g (zG hb) ?_,hb];intro e1;rcases h.2 with ⟨rfl,_⟩ | ⟨k,cap,cur,rfl,_,hh,_⟩
 ·simp [Value.ownBlock] at e1
 ·simp [Value.ownBlock] at e1;subst e1;rw [hb] at hh;cases hh
  exact ht rfl
theorem zJf {w w':World} {B B2:Nat} {e e2:TypeId} {size n size2 n2:Nat} {v v2:Value} {xs xs2:List Value} (h:w.ownsRow B e size v n xs) (hg:w.grownBy w' v.ownBlock) (h2:w.ownsRow B2 e2 size2 v2 n2 xs2) (ht:e2≠e):w'.ownsRow B2 e2 size2 v2 n2 xs2:=by
 obtain ⟨g1,g2⟩:=h2;refine ⟨g1,?_⟩;rcases g2 with g2 | ⟨k,cap,cur,hv,hk,hh,r⟩
 ·exact Or.inl g2
 ·exact Or.inr ⟨k,cap,cur,hv,hk,jA h hg hh ht,r⟩
theorem Row.same {w w':World} {v:Value} {n sz:Nat} {cs:List Value} (h:Row w v n sz cs) (hk:∀ b,v.ownBlock=some b→b<w.heap.size→b<w'.heap.size∧w'.heap[b]?=w.heap[b]?):Row w' v n sz cs:=by
 obtain ⟨h1,a,cap,hv,hc,hz,h2⟩:=h;refine ⟨h1,a,cap,hv,hc,hz,fun hn=>?_⟩;obtain ⟨b,off,ha,hlt,hcell⟩:=h2 hn;subst ha;obtain ⟨k1,k2⟩:=hk b (by rw [hv];rfl) hlt;refine ⟨b,off,rfl,k1,fun i hi=>?_⟩;rw [← hcell i hi];simp only [World.cell?,k2]
theorem Row.no_map {w:World} {v:Value} {n sz:Nat} {cs:List Value} (h:Row w v n sz cs) (hn:0<n) (hsz:0<sz) {bm k:Nat} {M:ByteArray→Option Int} (hm:MapIs w bm k M):∀ b,v.ownBlock=some b→b≠bm:=by
 obtain ⟨h1,a,cap,hv,hc,hz,h2⟩:=h;obtain ⟨b,off,ha,hlt,hcell⟩:=h2 hn;subst ha;intro b' hb' e;rw [hv] at hb';obtain rfl:b=b':=by simpa [Value.ownBlock] using hb'
 subst e;obtain ⟨D,⟨es,clock,hb,_⟩,_⟩:=hm;have h0:0<cs.length:=by rw [h1];exact Nat.mul_pos hn hsz
 have:=hcell 0 (Nat.mul_pos hn hsz);rw [gE h0] at this;simp [World.cell?,hb] at this
theorem World.ownsRow.base_mono {w:World} {B B':Nat} {e:TypeId} {size n:Nat} {v:Value} {xs:List Value} (h:w.ownsRow B e size v n xs) (hb:B'≤B):w.ownsRow B' e size v n xs:=by
 refine ⟨h.1,?_⟩;rcases h.2 with h2 | ⟨g,cap,cur,hv,hg,r⟩
 ·exact Or.inl h2
 ·exact Or.inr ⟨g,cap,cur,hv,Nat.le_trans hb hg,r⟩
theorem zWw (n:Nat) (h:n<1000000):(Lit.int .i64 (n:Int)).wf=true:=by
 have h1:IntKind.i64.min=-9223372036854775808:=by decide
 have h2:IntKind.i64.max=9223372036854775807:=by decide
 simp only [Lit.wf,h1,h2,Bool.and_eq_true,decide_eq_true_eq];omega
def bind0 (h:Hl):Bnd:=(h.1,0,0)
def kindsV (hs:List Hl):List Value:=(kindsI hs).map (Value.int .u8)
theorem zMo (hs:List Hl) (h:Hl):kindsV (hs++[h])=kindsV hs++[.int .u8 (h.2:Int)]:=by simp [kindsV,kindsI]
theorem zMp (hs:List Hl) (h:Hl):bindsV ((hs++[h]).map bind0)=bindsV (hs.map bind0)++[.string h.1,.int .i64 0,.int .i64 0]:=by simp [bindsV,bindV,bind0]
def holeO (h:Hl):Obj:=.cells #[.string h.1,.int .u8 (h.2:Int)] 50 (0,0)
structure AtW (g bm:Nat) (hm hk hb:List Hl) (vf vl vfe ve vk vb:Value) (X:List (Nat×Hl)) (B0:Nat) (w0 W8 W:World):Prop where
 s:W.heap[g]?=some (.cells #[vf,vl,vfe,ve,.map (some bm),vk,vb,.slice none 0 0] 108 (0,0))
 m:MapIs W bm hm.length (holeM hm)
 k:W.ownsRow (g+1) 5 1 vk hk.length (kindsV hk)
 b:W.ownsRow (g+1) 46 3 vb hb.length (bindsV (hb.map bind0))
 old:∀ j,j<g→j≠bm→W.heap[j]?=W8.heap[j]?
 lt:B0≤bm∧bm<g
 below:Below B0 w0 W
 base:g+1≤W.heap.size
 x:∀ p∈X,W.heap[p.1]?=some (holeO p.2)∧g<p.1
theorem AtW.alloc {g bm:Nat} {hm hk hb:List Hl} {vf vl vfe ve vk vb:Value} {X:List (Nat×Hl)} {B0:Nat} {w0 W8 W:World} (h:AtW g bm hm hk hb vf vl vfe ve vk vb X B0 w0 W8 W) (o:Obj):AtW g bm hm hk hb vf vl vfe ve vk vb X B0 w0 W8 (W.alloc o):=by
 have hbs:=h.base;have hl:=h.lt;refine ⟨by rw [Below.heap_alloc _ _ _ (by omega)];exact h.s,h.m.same (by rw [Below.heap_alloc _ _ _ (by omega)]),h.k.alloc _,h.b.alloc _,fun j h1 h2=>by rw [Below.heap_alloc _ _ _ (by omega)];exact h.old j h1 h2,h.lt,h.below.alloc (by omega) _,by simp;omega,fun p hp=>?_⟩;obtain ⟨a,b⟩:=h.x p hp;exact ⟨by rw [Below.heap_alloc _ _ _ (zG a)];exact a,b⟩
theorem AtW.hole {g bm:Nat} {hm hk hb:List Hl} {vf vl vfe ve vk vb:Value} {X:List (Nat×Hl)} {B0:Nat} {w0 W8 W:World} (h:AtW g bm hm hk hb vf vl vfe ve vk vb X B0 w0 W8 W) (y:Hl):AtW g bm hm hk hb vf vl vfe ve vk vb [(W.heap.size,y)] B0 w0 W8 (W.alloc (holeO y)):=by
 have h1:=h.alloc (holeO y);refine ⟨h1.s,h1.m,h1.k,h1.b,h1.old,h1.lt,h1.below,h1.base,fun p hp=>?_⟩;obtain rfl:p=(W.heap.size,y):=by simpa using hp
 exact ⟨heap_alloc_new _ _,h.base⟩
theorem AtW.noX {g bm:Nat} {hm hk hb:List Hl} {vf vl vfe ve vk vb:Value} {X:List (Nat×Hl)} {B0:Nat} {w0 W8 W:World} (h:AtW g bm hm hk hb vf vl vfe ve vk vb X B0 w0 W8 W):AtW g bm hm hk hb vf vl vfe ve vk vb [] B0 w0 W8 W:=⟨h.s,h.m,h.k,h.b,h.old,h.lt,h.below,h.base,fun p hp=>by cases hp⟩
theorem AtW.drew {g bm:Nat} {hm hk hb:List Hl} {vf vl vfe ve vk vb:Value} {X:List (Nat×Hl)} {B0:Nat} {w0 W8 W:World} (h:AtW g bm hm hk hb vf vl vfe ve vk vb X B0 w0 W8 W):AtW g bm hm hk hb vf vl vfe ve vk vb X B0 w0 W8 W.drew:=⟨h.s,h.m.same rfl,h.k,h.b,h.old,h.lt,h.below.drew,h.base,h.x⟩
theorem AtW.cells {g bm:Nat} {hm hk hb:List Hl} {vf vl vfe ve vk vb:Value} {X:List (Nat×Hl)} {B0:Nat} {w0 W8 W:World} (h:AtW g bm hm hk hb vf vl vfe ve vk vb X B0 w0 W8 W):W.cell? ⟨g,4,none⟩=some (.map (some bm))∧W.cell? ⟨g,5,none⟩=some vk∧W.cell? ⟨g,6,none⟩=some vb∧W.cell? ⟨g,7,none⟩=some (.slice none 0 0)∧∀ j,W.frozen? ⟨g,j,none⟩=false:=by
 simp only [World.cell?,World.frozen?,h.s];exact ⟨rfl,rfl,rfl,rfl,fun j=>by simp⟩
theorem AtW.xc {g bm:Nat} {hm hk hb:List Hl} {vf vl vfe ve vk vb:Value} {gh:Nat} {y:Hl} {B0:Nat} {w0 W8 W:World} (h:AtW g bm hm hk hb vf vl vfe ve vk vb [(gh,y)] B0 w0 W8 W):W.cell? ⟨gh,0,none⟩=some (.string y.1)∧W.cell? ⟨gh,1,none⟩=some (.int .u8 (y.2:Int))∧g<gh:=by
 obtain ⟨a,b⟩:=h.x (gh,y) (by simp);simp only [] at a b;simp only [World.cell?,a,holeO];exact ⟨rfl,rfl,b⟩
theorem AtW.put {g bm:Nat} {hm hk hb:List Hl} {vf vl vfe ve vk vb:Value} {X:List (Nat×Hl)} {B0:Nat} {w0 W8 W:World} (h:AtW g bm hm hk hb vf vl vfe ve vk vb X B0 w0 W8 W) (y:Hl) (hd:∀ z∈hm,z.1≠y.1) (hn:hm.length<1000000) (hy:y.1.size≤1048576) :
  ∃ w',(Instr.mapUpdate 101 (.map (some bm)) (.string y.1) (.int .i64 (hm.length:Int))).run Tryz.prog W=.ok () w'∧AtW g bm (hm++[y]) hk hb vf vl vfe ve vk vb X B0 w0 W8 w':=by
 obtain ⟨w',hrun,hM,hg⟩:=h.m.put (by unfold maxLen;omega) y.1 (by unfold maxLen;omega) (hm.length:Int) (zWw _ hn);rw [zPx hm y hd] at hM;have hl:=h.lt;have hbs:=h.base;have hkeep:∀ j,j<W.heap.size→j≠bm→w'.heap[j]?=W.heap[j]?:=fun j h1 h2=>hg.block j h1 (fun e=>h2 (Option.some.inj e))
 have hown:∀ {e:TypeId} {sz n:Nat} {v:Value} {xs:List Value},W.ownsRow (g+1) e sz v n xs→w'.ownsRow (g+1) e sz v n xs:=fun {e sz n v xs} ho=>by
  refine ho.kept hg ?_;cases hb:v.ownBlock with
  | none=>exact Or.inl rfl
  | some q =>
   refine Or.inr fun e=>?_;have h1:=(ho.lt q hb).1;have h2:=Option.some.inj e;omega
 refine ⟨w',hrun,⟨by rw [hkeep g (by omega) (by omega)];exact h.s,by rw [lA];exact hM,hown h.k,hown h.b,fun j h1 h2=>by rw [hkeep j (by omega) h2];exact h.old j h1 h2,h.lt,h.below.grown hg (by omega) (fun q e=>by cases e;exact hl.1),Nat.le_trans hbs hg.size,fun p hp=>?_⟩⟩;obtain ⟨a,b⟩:=h.x p hp;exact ⟨by rw [hkeep p.1 (zG a) (by omega)];exact a,b⟩
theorem AtW.kind {g bm:Nat} {hm hk hb:List Hl} {vf vl vfe ve vk vb:Value} {X:List (Nat×Hl)} {B0:Nat} {w0 W8 W:World} (h:AtW g bm hm hk hb vf vl vfe ve vk vb X B0 w0 W8 W) (y:Hl) {v':Value} {w':World}
  (ho:w'.ownsRow (g+1) 5 1 v' (hk.length+1) (kindsV hk++[.int .u8 (y.2:Int)])) (hg:W.grownBy w' vk.ownBlock):AtW g bm hm (hk++[y]) hb vf vl vfe ve v' vb X B0 w0 W8 (w'.setCell ⟨g,5,none⟩ v'):=by
 have hl:=h.lt;have hbs:=h.base;have hne:∀ j,j≤g→vk.ownBlock≠some j:=fun j hj e=>by have:=(h.k.lt j e).1;omega
 have hkeep:∀ j,j≤g→w'.heap[j]?=W.heap[j]?:=fun j hj=>hg.block j (by omega) (fun e=>hne j hj e.symm)
 have hb':=zJf h.k hg h.b (by decide);refine ⟨?_,?_,?_,ownsRow_setCell_other hb' (fun e=>by have:=(hb'.lt g e).1;omega) _,fun j h1 h2=>?_,h.lt,(h.below.grown hg (by omega) (fun q e=>by have:=(h.k.lt q e).1;omega)).setCell (p:=⟨g,5,none⟩) (by show B0≤g;omega) _,by simp;have:=hg.size;omega,fun p hp=>?_⟩
 ·have:=heap_setCell_same w' g 5 _ _ v' (by rw [hkeep g (nR _)];exact h.s);exact this
 ·exact h.m.same (by rw [heap_setCell_other _ _ _ _ (show bm≠g by omega),hkeep bm (by omega)])
 ·rw [zMo,lA];exact ownsRow_setCell_other ho (fun e=>by have:=(ho.lt g e).1;omega) _
 ·rw [heap_setCell_other _ _ _ _ (show j≠g by omega),hkeep j (by omega)];exact h.old j h1 h2
 ·obtain ⟨a,b⟩:=h.x p hp;have:=jA h.k hg a (by decide);exact ⟨by rw [heap_setCell_other _ _ _ _ (show p.1≠g by omega)];exact this,b⟩
theorem AtW.bind {g bm:Nat} {hm hk hb:List Hl} {vf vl vfe ve vk vb:Value} {X:List (Nat×Hl)} {B0:Nat} {w0 W8 W:World} (h:AtW g bm hm hk hb vf vl vfe ve vk vb X B0 w0 W8 W) (y:Hl) {v':Value} {w':World}
  (ho:w'.ownsRow (g+1) 46 3 v' (hb.length+1) (bindsV (hb.map bind0)++[.string y.1,.int .i64 0,.int .i64 0])) (hg:W.grownBy w' vb.ownBlock):AtW g bm hm hk (hb++[y]) vf vl vfe ve vk v' X B0 w0 W8 (w'.setCell ⟨g,6,none⟩ v'):=by
 have hl:=h.lt;have hbs:=h.base;have hne:∀ j,j≤g→vb.ownBlock≠some j:=fun j hj e=>by have:=(h.b.lt j e).1;omega
 have hkeep:∀ j,j≤g→w'.heap[j]?=W.heap[j]?:=fun j hj=>hg.block j (by omega) (fun e=>hne j hj e.symm)
 have hk':=zJf h.b hg h.k (by decide);refine ⟨?_,?_,ownsRow_setCell_other hk' (fun e=>by have:=(hk'.lt g e).1;omega) _,?_,fun j h1 h2=>?_,h.lt,(h.below.grown hg (by omega) (fun q e=>by have:=(h.b.lt q e).1;omega)).setCell (p:=⟨g,6,none⟩) (by show B0≤g;omega) _,by simp;have:=hg.size;omega,fun p hp=>?_⟩
 ·have:=heap_setCell_same w' g 6 _ _ v' (by rw [hkeep g (nR _)];exact h.s);exact this
 ·exact h.m.same (by rw [heap_setCell_other _ _ _ _ (show bm≠g by omega),hkeep bm (by omega)])
 ·rw [zMp,lA];exact ownsRow_setCell_other ho (fun e=>by have:=(ho.lt g e).1;omega) _
 ·rw [heap_setCell_other _ _ _ _ (show j≠g by omega),hkeep j (by omega)];exact h.old j h1 h2
 ·obtain ⟨a,b⟩:=h.x p hp;have:=jA h.b hg a (by decide);exact ⟨by rw [heap_setCell_other _ _ _ _ (show p.1≠g by omega)];exact this,b⟩
set_option maxRecDepth 100000
set_option maxHeartbeats 32000000
attribute [local irreducible] Calls
theorem zIp {x y:ByteArray}:(x.toList == y.toList)=decide (x=y):=by
 by_cases h:x=y
 ·subst h;simp
 ·rw [decide_eq_false h,bE];exact zAr h
theorem zQi (r:RuleM) (vh vf vb:Value) (p:Prt) (w:World) (hr:RuleIn w r vh vf vb) (h0:0<r.fnd.length) :
  Calls Tryz.prog 34 #[ruleAgg r vh vf vb,.agg #[.int .u8 (p.1:Int),.int .i64 p.2.1,.string p.2.2]] w fun e w'=>e=.returned (.bool (alikeZ r p))∧Below w.heap.size w w':=by
 have HQ:Hid (∀ x w',alikeZ r p=x→Below w.heap.size w w'→(fun (e:Ending) w'=>e=.returned (.bool (alikeZ r p))∧Below w.heap.size w w') (.returned (.bool x)) w'):=Hd fun x w' h hb=>⟨by rw [h],hb⟩
 generalize (fun (e:Ending) w'=>e=.returned (.bool (alikeZ r p))∧Below w.heap.size w w')=Q at *;obtain ⟨ah,ch,rfl,hch⟩:=Row.shape hr.H;obtain ⟨af,cf,rfl,hcf⟩:=hr.F.slice;obtain ⟨ab,cb,rfl,hcb⟩:=hr.B.slice;have HB:Hid (Below w.heap.size w ((w.alloc (.cells #[.string r.nm,.int .u8 (r.goal:Int),.slice ah r.holes.length ch,.slice af r.fnd.length cf,.slice ab r.by'.length cb] 41)).alloc (.cells #[.int .u8 (p.1:Int),.int .i64 p.2.1,.string p.2.2] 53))):=Hd (((bR _ _).alloc (nR _) _).alloc (by simp) _);have e3:((w.alloc (.cells #[.string r.nm,.int .u8 (r.goal:Int),.slice ah r.holes.length ch,.slice af r.fnd.length cf,.slice ab r.by'.length cb] 41)).alloc (.cells #[.int .u8 (p.1:Int),.int .i64 p.2.1,.string p.2.2] 53)).cell? ⟨w.heap.size,3,none⟩=some (.slice af r.fnd.length cf):=by
  simp only [World.cell?];rw [Below.heap_alloc _ _ _ (by simp),heap_alloc_new];rfl
 have HP:Hid (PK ((w.alloc (.cells #[.string r.nm,.int .u8 (r.goal:Int),.slice ah r.holes.length ch,.slice af r.fnd.length cf,.slice ab r.by'.length cb] 41)).alloc (.cells #[.int .u8 (p.1:Int),.int .i64 p.2.1,.string p.2.2] 53)) (w.heap.size+1) p):=Hd (by
  have:=PK.alloc_new (w.alloc (.cells #[.string r.nm,.int .u8 (r.goal:Int),.slice ah r.holes.length ch,.slice af r.fnd.length cf,.slice ab r.by'.length cb] 41)) p
  simpa using this)
 obtain ⟨b,off,rfl,_,_,hbl,hcell⟩:=hr.F.at HB.out h0;obtain ⟨d0,d1,d2⟩:=hcell 0 h0;have HZ:Hid (alikeZ r p=(r.fnd[0].1 == 26 || (r.fnd[0].1 == 50 || (r.fnd[0].1 == p.1&&decide (r.fnd[0].2.2=p.2.2))))):=Hd (by
  unfold alikeZ;rw [gE h0])
 generalize r.fnd[0]=q at *;obtain ⟨qk,qn,qw⟩:=q;simp only [Nat.zero_mul,Nat.add_zero] at d0 d1 d2 HZ;have h00:(0:Int)<r.fnd.length:=by omega
 clear hcell hr;unfold ruleAgg;go_enter Tryz.func34,Tryz.ntmps34;go_upto_region 1 with (fail);generalize (w.alloc (.cells #[.string r.nm,.int .u8 (r.goal:Int),.slice ah r.holes.length ch,.slice (some ⟨b,off,none⟩) r.fnd.length cf,.slice ab r.by'.length cb] 41)).alloc (.cells #[.int .u8 (p.1:Int),.int .i64 p.2.1,.string p.2.2] 53)=W at *;go_upto_region 2 with (fail);have HPK:=Hd (HP.out.keep ((bR _ _).alloc (nR _) (.cells #[.int .u8 (qk:Int),.int .i64 qn,.string qw] 53)));have HQK:=Hd (PK.alloc_new W (qk,qn,qw));have HB2:=Hd (HB.out.alloc HB.out.size (.cells #[.int .u8 (qk:Int),.int .i64 qn,.string qw] 53));simp only [] at HQK;clear d0 d1 d2 e3 HP HB;generalize W.alloc (.cells #[.int .u8 (qk:Int),.int .i64 qn,.string qw] 53)=W2 at *;have q0:=HQK.out.c0;have q2:=HQK.out.c2;have p0:=HPK.out.c0;have p2:=HPK.out.c2;simp only [] at q0 q2 p0 p2;clear HQK HPK;by_cases h1:qk=26
 ·subst h1;have HX:=Hd (HQ.out true W2 (by rw [HZ.out];rfl) HB2.out);go_wp2_with fail;exact HX.out
 have g1:((qk:Int) == 26)=false:=by rw [bE];omega
 by_cases h2:qk=50
 ·subst h2;have HX:=Hd (HQ.out true W2 (by rw [HZ.out];rfl) HB2.out);go_wp2_with fail;exact HX.out
 have g2:((qk:Int) == 50)=false:=by rw [bE];omega
 have n1:(qk == 26)=false:=by rw [bE];exact h1
 have n2:(qk == 50)=false:=by rw [bE];exact h2
 obtain ⟨pk,pn,pw⟩:=p;simp only [] at p0 p2 HZ HQ;by_cases h3:qk=pk
 ·subst h3;have HX:=Hd (HQ.out (decide (qw=pw)) W2 (by rw [HZ.out];simp [n1,n2]) HB2.out);have g5:(qw.toList == pw.toList)=decide (qw=pw):=zIp;clear h1 h2 n1 n2;go_wp2_with fail;exact HX.out
 ·have HX:=Hd (HQ.out false W2 (by rw [HZ.out];simp [n1,n2,h3]) HB2.out);have g3:((qk:Int) == (pk:Int))=false:=by rw [bE];omega
  have g4:(qk == pk)=false:=by rw [bE];exact h3
  clear h1 h2 h3 n1 n2;go_wp2_with fail;exact HX.out
def fcRel (rs:List RuleX) (w0:World) (iv:Value) (wr:World):Prop:=∃ k:Nat,iv=.int .i64 (k:Int)∧k≤rs.length∧vE (rs.map (·.1))=vE ((rs.drop k).map (·.1))∧Below w0.heap.size w0 wr
theorem zQj (rs:List RuleX) (hs:∀ x∈rs,SmallR x.1) (l:List Prt) (hl:l.length≤1048576) (vr vl:Value) (w:World) (hT:Tabs w) (hM:MaxC w) (hr:xM w vr rs) (hlr:zF w vl l) :
  Calls Tryz.prog 23 #[vr,vl] w fun e w'=>e=.returned (.int .i64 (yR (rs.map (·.1)) l))∧Below w.heap.size w w':=by
 have HQ:Hid (∀ x w',yR (rs.map (·.1)) l=x→Below w.heap.size w w'→(fun (e:Ending) w'=>e=.returned (.int .i64 (yR (rs.map (·.1)) l))∧Below w.heap.size w w') (.returned (.int .i64 x)) w'):=Hd fun x w' h hb=>⟨by rw [h],hb⟩
 generalize (fun (e:Ending) w'=>e=.returned (.int .i64 (yR (rs.map (·.1)) l))∧Below w.heap.size w w')=Q at *;have HF:Hid (yR (rs.map (·.1)) l=if zV l=false then 8 else if 32<rs.length then 14 else vE (rs.map (·.1))):=Hd (by unfold yR;rw [List.length_map]);obtain ⟨ar,cr,rfl,hcr⟩:=hr.shape;obtain ⟨al,cl,rfl,hcl⟩:=hlr.slice;have CW:=Hd (zDu l (by omega) _ w hlr);have HS:=Hd hs;have HR:=Hd hr;have HT:=Hd hT;have HMX:=Hd hM;clear hr hlr hs hT hM;go_enter Tryz.func23,Tryz.ntmps23;go_wp2_with fail;refine CW.out.mono ?_;rintro e W1 ⟨rfl,hb1⟩;have HB1:=Hd hb1;clear hb1 CW;cases hw:zV l with
 | false =>
  have HX:=Hd (HQ.out 8 W1 (by rw [HF.out,hw];rfl) HB1.out);clear hw;go_wp2_with fail;exact HX.out
 | true =>
 have HW:=Hd hw;clear hw;by_cases h32:32<rs.length
 ·have HX:=Hd (HQ.out 14 W1 (by rw [HF.out,HW.out,iN (by simp),iP h32]) HB1.out);have g1:(32:Int)<rs.length:=by omega
  go_wp2_with fail;exact HX.out
 have HFE:Hid (yR (rs.map (·.1)) l=vE (rs.map (·.1))):=Hd (by rw [HF.out,HW.out,iN (by simp),iN h32]);have h32':(rs.length:Int)≤32:=by omega
 clear h32;go_wp2_with fail;go_loopw [18] (fun iv wr=>fcRel rs W1 iv wr) (fun iv _=>rs.length-(intOf iv).toNat)
 case atStart=>exact ⟨0,rfl,Nat.zero_le _,rfl,bR _ _⟩
 case round =>
  obtain ⟨k,rfl,hk,hfe,hb⟩:=hrel;have HB:=Hd hb;have HE:=Hd hfe;clear hb hfe;by_cases hlt:k<rs.length
  ·obtain ⟨b,off,rfl,_,_,hbl,hcell⟩:=HR.out.at (zC HB1.out HB.out) (show 0<rs.length by omega);obtain ⟨d0,d1,d2,d3,d4⟩:=hcell k hlt;have hin:=HR.out.E _ (gM hlt);have hsm:=HS.out _ (gM hlt);have HE2:Hid (vE (rs.map (·.1))=if ruleZ (rs[k]).1=0 then vE ((rs.drop (k+1)).map (·.1)) else ruleZ (rs[k]).1):=Hd (by
    rw [HE.out,List.drop_eq_getElem_cons hlt,List.map_cons,vE])
   generalize rs[k]=x at *;obtain ⟨r,vh,vf,vb⟩:=x;simp only [] at d0 d1 d2 d3 d4 hin hsm HE2;obtain ⟨ah,ch,rfl,hch⟩:=Row.shape hin.H;obtain ⟨af,cf,rfl,hcf⟩:=hin.F.slice;obtain ⟨ab,cb,rfl,hcb⟩:=hin.B.slice;have HBA:Hid (Below W1.heap.size W1 (wr.alloc (.cells #[.string r.nm,.int .u8 (r.goal:Int),.slice ah r.holes.length ch,.slice af r.fnd.length cf,.slice ab r.by'.length cb] 41))):=Hd (HB.out.alloc HB.out.size _);have CR:=Hd (zHn r hsm _ _ _ _ (HT.out.below (zC HB1.out HBA.out)) (HMX.out.below (zC HB1.out HBA.out)) (hin.below (zC HB1.out HBA.out)));unfold ruleAgg at CR;clear hcell hin hsm;go_wp2_with fail;refine CR.out.mono ?_;rintro e W3 ⟨rfl,hb3⟩;have HB3:=Hd (zC HBA.out hb3);clear hb3 CR HBA d0 d1 d2 d3 d4;by_cases hz:ruleZ r=0
   ·have HX:Hid (fcRel rs W1 (.int .i64 ((k:Int)+1)) W3):=Hd ⟨k+1,by push_cast;rfl,hlt,by rw [HE2.out,iP hz],HB3.out⟩;rw [hz];clear hz;go_wp2_with fail
    case roundEnd=>exact ⟨HX.out,by simp only [intOf];omega⟩
   ·have HX:=Hd (HQ.out (ruleZ r) W3 (by rw [HFE.out,HE2.out,iN hz]) (zC HB1.out HB3.out));have g1:(ruleZ r != 0)=true:=by rw [bne_iff_ne];exact hz
    have g2:(ruleZ r == 0)=false:=by rw [bE];exact hz
    clear hz;generalize ruleZ r=z at *;go_wp2_with fail;exact HX.out
  ·obtain rfl:k=rs.length:=by omega
   have HX:=Hd (HQ.out 0 wr (by rw [HFE.out,HE.out,List.drop_length];rfl) (zC HB1.out HB.out));go_wp2_with fail;exact HX.out
end Go.Proofs.YtbjkdmbcpkopjaaGreatDoor
