/- Layer 17: the program's search is the search in plain Lean. -/
import Derived.Test.YtlkheofphafofaaGreatDoorSeekMMc
import Derived.Test.YtlkheofphafofaaGreatDoorMapSMc
import Derived.Test.YtlkheofphafofaaGreatDoorRuleVMc
import Derived.Test.YtlkheofphafofaaGreatDoorAppEqMc
import Derived.Test.YtlkheofphafofaaGreatDoorCheckBMc
namespace Go.Proofs.YtlkheofphafofaaGreatDoor
set_option linter.all false
open Go.RowKit

theorem sk_all (E:SkE) (ok:SkOK E) (h7:∀ x∈E.hs,1≤x.2∧x.2≤7):∀ n,PartC E n∧KidsC E n
 | 0=>⟨(fun w σ p i K tv hi hp hil hn ht=>by have:=(endB_gt (well_rows ok.hf.well) hp).1;omega),(fun w σ p pend i iend K tv J M hi hpe hJ hie hM hn ht=>by omega)⟩
 | n+1=>by
  obtain ⟨h1,h2⟩:=sk_all E ok h7 n
  constructor
  ·intro w σ p i K tv hi hp hil hn ht
   cases ho:oneOf E.f E.hs p with
   | some h=>exact sk_part_one E ok h7 n w σ p i K tv hi hp hil ht h ho
   | none=>exact sk_part_else E ok n h2 w σ p i K tv hi hp hil hn ht ho
  ·intro w σ p pend i iend K tv J M hi hpe hJ hie hM hn ht
   by_cases hpp:p=pend
   ·subst hpp
    exact sk_kids_end E ok n w σ p i iend K tv hi hpe hie (by have:=adv_le (well_rows ok.hl) _ _ _ _ hie hM;omega) ht
   ·cases hs:sevOf E.f E.hs p with
    | none=>exact sk_kids_one E ok n h1 h2 w σ p pend i iend K tv J M hi hpe hJ hie hM hn ht hpp hs
    | some h=>exact sk_kids_sev E ok n h1 h2 w σ p pend i iend K tv J M hi hpe hJ hie hM hn ht hpp h hs
theorem sk_top (E:SkE) (ok:SkOK E) (h7:∀ x∈E.hs,1≤x.2∧x.2≤7) (w:World) (i:Nat) (tv:Value) (hi:SkIn E (startS E.hs) w) (hil:i<E.l.length) (ht:ThenOK E some tv w) :
  Calls Tryz.prog 38 #[.pointer (some ⟨E.g,0,none⟩),.int .i64 0,.int .i64 (i:Int),tv] w (seekPost E ((aPart E.f E.l E.hs (fuelZ E.f) 0 i (startS E.hs)).head?) (startS E.hs) w):=by
 have h0:=well_zero ok.hf.well
 have:=(sk_all E ok h7 (fuelZ E.f)).1 w (startS E.hs) 0 i some tv hi h0.1 hil (by rw [h0.2];unfold fuelZ;omega) ht
 rw [(s_all E.f E.l E.hs (fuelZ E.f)).1] at this
 have e:∀ (l:List MSt),l.findSome? some=l.head?:=fun l=>by cases l <;> simp [List.findSome?_cons]
 rw [e] at this
 exact this
end Go.Proofs.YtlkheofphafofaaGreatDoor
namespace Go.Proofs.YtlkheofphafofaaGreatDoor
set_option linter.all false
open Go.RowKit

theorem other_block {w w':World} {B:Nat} {e:TypeId} {size n:Nat} {v:Value} {xs:List Value} (h:w.ownsRow B e size v n xs) (hg:w.grownBy w' v.ownBlock) {g:Nat} {cs:Array Value} {t:TypeId} {fr:Nat×Nat} (hb:w.heap[g]?=some (.cells cs t fr)) (ht:t≠e) :
  w'.heap[g]?=some (.cells cs t fr):=by
 rw [hg.block g (keeps_lt hb) ?_,hb]
 intro e1
 rcases h.2 with ⟨rfl,_⟩ | ⟨k,cap,cur,rfl,_,hh,_⟩
 ·simp [Value.ownBlock] at e1
 ·simp [Value.ownBlock] at e1
  subst e1
  rw [hb] at hh
  cases hh
  exact ht rfl
theorem other_row {w w':World} {B B2:Nat} {e e2:TypeId} {size n size2 n2:Nat} {v v2:Value} {xs xs2:List Value} (h:w.ownsRow B e size v n xs) (hg:w.grownBy w' v.ownBlock) (h2:w.ownsRow B2 e2 size2 v2 n2 xs2) (ht:e2≠e):w'.ownsRow B2 e2 size2 v2 n2 xs2:=by
 obtain ⟨g1,g2⟩:=h2
 refine ⟨g1,?_⟩
 rcases g2 with g2 | ⟨k,cap,cur,hv,hk,hh,r⟩
 ·exact Or.inl g2
 ·exact Or.inr ⟨k,cap,cur,hv,hk,other_block h hg hh ht,r⟩
theorem Row.same {w w':World} {v:Value} {n sz:Nat} {cs:List Value} (h:Row w v n sz cs) (hk:∀ b,v.ownBlock=some b→b<w.heap.size→b<w'.heap.size∧w'.heap[b]?=w.heap[b]?):Row w' v n sz cs:=by
 obtain ⟨h1,a,cap,hv,hc,hz,h2⟩:=h
 refine ⟨h1,a,cap,hv,hc,hz,fun hn=>?_⟩
 obtain ⟨b,off,ha,hlt,hcell⟩:=h2 hn
 subst ha
 obtain ⟨k1,k2⟩:=hk b (by rw [hv];rfl) hlt
 refine ⟨b,off,rfl,k1,fun i hi=>?_⟩
 rw [← hcell i hi]
 simp only [World.cell?,k2]
theorem Row.no_map {w:World} {v:Value} {n sz:Nat} {cs:List Value} (h:Row w v n sz cs) (hn:0<n) (hsz:0<sz) {bm k:Nat} {M:ByteArray→Option Int} (hm:MapIs w bm k M):∀ b,v.ownBlock=some b→b≠bm:=by
 obtain ⟨h1,a,cap,hv,hc,hz,h2⟩:=h
 obtain ⟨b,off,ha,hlt,hcell⟩:=h2 hn
 subst ha
 intro b' hb' e
 rw [hv] at hb'
 obtain rfl:b=b':=by simpa [Value.ownBlock] using hb'
 subst e
 obtain ⟨D,⟨es,clock,hb,_⟩,_⟩:=hm
 have h0:0<cs.length:=by rw [h1];exact Nat.mul_pos hn hsz
 have:=hcell 0 (Nat.mul_pos hn hsz)
 rw [List.getElem?_eq_getElem h0] at this
 simp [World.cell?,hb] at this
theorem World.ownsRow.base_mono {w:World} {B B':Nat} {e:TypeId} {size n:Nat} {v:Value} {xs:List Value} (h:w.ownsRow B e size v n xs) (hb:B'≤B):w.ownsRow B' e size v n xs:=by
 refine ⟨h.1,?_⟩
 rcases h.2 with h2 | ⟨g,cap,cur,hv,hg,r⟩
 ·exact Or.inl h2
 ·exact Or.inr ⟨g,cap,cur,hv,Nat.le_trans hb hg,r⟩
theorem wf_small (n:Nat) (h:n<1000000):(Lit.int .i64 (n:Int)).wf=true:=by
 have h1:IntKind.i64.min=-9223372036854775808:=by decide
 have h2:IntKind.i64.max=9223372036854775807:=by decide
 simp only [Lit.wf,h1,h2,Bool.and_eq_true,decide_eq_true_eq]
 omega
def bind0 (h:Hl):Bnd:=(h.1,0,0)
def kindsV (hs:List Hl):List Value:=(kindsI hs).map (Value.int .u8)
theorem kindsV_snoc (hs:List Hl) (h:Hl):kindsV (hs++[h])=kindsV hs++[.int .u8 (h.2:Int)]:=by simp [kindsV,kindsI]
theorem binds0_snoc (hs:List Hl) (h:Hl):bindsV ((hs++[h]).map bind0)=bindsV (hs.map bind0)++[.string h.1,.int .i64 0,.int .i64 0]:=by simp [bindsV,bindV,bind0]
def holeO (h:Hl):Obj:=.cells #[.string h.1,.int .u8 (h.2:Int)] 43 (0,0)
structure AtW (g bm:Nat) (hm hk hb:List Hl) (vf vl vfe ve vk vb:Value) (X:List (Nat×Hl)) (B0:Nat) (w0 W8 W:World):Prop where
 s:W.heap[g]?=some (.cells #[vf,vl,vfe,ve,.map (some bm),vk,vb,.slice none 0 0] 73 (0,0))
 m:MapIs W bm hm.length (holeM hm)
 k:W.ownsRow (g+1) 5 1 vk hk.length (kindsV hk)
 b:W.ownsRow (g+1) 41 3 vb hb.length (bindsV (hb.map bind0))
 old:∀ j,j<g→j≠bm→W.heap[j]?=W8.heap[j]?
 lt:B0≤bm∧bm<g
 below:Below B0 w0 W
 base:g+1≤W.heap.size
 x:∀ p∈X,W.heap[p.1]?=some (holeO p.2)∧g<p.1
theorem AtW.alloc {g bm:Nat} {hm hk hb:List Hl} {vf vl vfe ve vk vb:Value} {X:List (Nat×Hl)} {B0:Nat} {w0 W8 W:World} (h:AtW g bm hm hk hb vf vl vfe ve vk vb X B0 w0 W8 W) (o:Obj):AtW g bm hm hk hb vf vl vfe ve vk vb X B0 w0 W8 (W.alloc o):=by
 have hbs:=h.base
 have hl:=h.lt
 refine ⟨by rw [Below.heap_alloc _ _ _ (by omega)];exact h.s,h.m.same (by rw [Below.heap_alloc _ _ _ (by omega)]),h.k.alloc _,h.b.alloc _,fun j h1 h2=>by rw [Below.heap_alloc _ _ _ (by omega)];exact h.old j h1 h2,h.lt,h.below.alloc (by omega) _,by simp;omega,fun p hp=>?_⟩
 obtain ⟨a,b⟩:=h.x p hp
 exact ⟨by rw [Below.heap_alloc _ _ _ (keeps_lt a)];exact a,b⟩
theorem AtW.hole {g bm:Nat} {hm hk hb:List Hl} {vf vl vfe ve vk vb:Value} {X:List (Nat×Hl)} {B0:Nat} {w0 W8 W:World} (h:AtW g bm hm hk hb vf vl vfe ve vk vb X B0 w0 W8 W) (y:Hl):AtW g bm hm hk hb vf vl vfe ve vk vb [(W.heap.size,y)] B0 w0 W8 (W.alloc (holeO y)):=by
 have h1:=h.alloc (holeO y)
 refine ⟨h1.s,h1.m,h1.k,h1.b,h1.old,h1.lt,h1.below,h1.base,fun p hp=>?_⟩
 obtain rfl:p=(W.heap.size,y):=by simpa using hp
 exact ⟨heap_alloc_new _ _,h.base⟩
theorem AtW.noX {g bm:Nat} {hm hk hb:List Hl} {vf vl vfe ve vk vb:Value} {X:List (Nat×Hl)} {B0:Nat} {w0 W8 W:World} (h:AtW g bm hm hk hb vf vl vfe ve vk vb X B0 w0 W8 W):AtW g bm hm hk hb vf vl vfe ve vk vb [] B0 w0 W8 W:=⟨h.s,h.m,h.k,h.b,h.old,h.lt,h.below,h.base,fun p hp=>by cases hp⟩
theorem AtW.drew {g bm:Nat} {hm hk hb:List Hl} {vf vl vfe ve vk vb:Value} {X:List (Nat×Hl)} {B0:Nat} {w0 W8 W:World} (h:AtW g bm hm hk hb vf vl vfe ve vk vb X B0 w0 W8 W):AtW g bm hm hk hb vf vl vfe ve vk vb X B0 w0 W8 W.drew:=⟨h.s,h.m.same rfl,h.k,h.b,h.old,h.lt,h.below.drew,h.base,h.x⟩
theorem AtW.cells {g bm:Nat} {hm hk hb:List Hl} {vf vl vfe ve vk vb:Value} {X:List (Nat×Hl)} {B0:Nat} {w0 W8 W:World} (h:AtW g bm hm hk hb vf vl vfe ve vk vb X B0 w0 W8 W):W.cell? ⟨g,4,none⟩=some (.map (some bm))∧W.cell? ⟨g,5,none⟩=some vk∧W.cell? ⟨g,6,none⟩=some vb∧W.cell? ⟨g,7,none⟩=some (.slice none 0 0)∧∀ j,W.frozen? ⟨g,j,none⟩=false:=by
 simp only [World.cell?,World.frozen?,h.s]
 exact ⟨rfl,rfl,rfl,rfl,fun j=>by simp⟩
theorem AtW.xc {g bm:Nat} {hm hk hb:List Hl} {vf vl vfe ve vk vb:Value} {gh:Nat} {y:Hl} {B0:Nat} {w0 W8 W:World} (h:AtW g bm hm hk hb vf vl vfe ve vk vb [(gh,y)] B0 w0 W8 W):W.cell? ⟨gh,0,none⟩=some (.string y.1)∧W.cell? ⟨gh,1,none⟩=some (.int .u8 (y.2:Int))∧g<gh:=by
 obtain ⟨a,b⟩:=h.x (gh,y) (by simp)
 simp only [] at a b
 simp only [World.cell?,a,holeO]
 exact ⟨rfl,rfl,b⟩
theorem AtW.put {g bm:Nat} {hm hk hb:List Hl} {vf vl vfe ve vk vb:Value} {X:List (Nat×Hl)} {B0:Nat} {w0 W8 W:World} (h:AtW g bm hm hk hb vf vl vfe ve vk vb X B0 w0 W8 W) (y:Hl) (hd:∀ z∈hm,z.1≠y.1) (hn:hm.length<1000000) (hy:y.1.size≤1048576) :
  ∃ w',(Instr.mapUpdate 69 (.map (some bm)) (.string y.1) (.int .i64 (hm.length:Int))).run Tryz.prog W=.ok () w'∧AtW g bm (hm++[y]) hk hb vf vl vfe ve vk vb X B0 w0 W8 w':=by
 obtain ⟨w',hrun,hM,hg⟩:=h.m.put (by unfold maxLen;omega) y.1 (by unfold maxLen;omega) (hm.length:Int) (wf_small _ hn)
 rw [holeM_snoc hm y hd] at hM
 have hl:=h.lt
 have hbs:=h.base
 have hkeep:∀ j,j<W.heap.size→j≠bm→w'.heap[j]?=W.heap[j]?:=fun j h1 h2=>hg.block j h1 (fun e=>h2 (Option.some.inj e))
 have hown:∀ {e:TypeId} {sz n:Nat} {v:Value} {xs:List Value},W.ownsRow (g+1) e sz v n xs→w'.ownsRow (g+1) e sz v n xs:=fun {e sz n v xs} ho=>by
  refine ho.kept hg ?_
  cases hb:v.ownBlock with
  | none=>exact Or.inl rfl
  | some q =>
   refine Or.inr fun e=>?_
   have h1:=(ho.lt q hb).1
   have h2:=Option.some.inj e
   omega
 refine ⟨w',hrun,⟨by rw [hkeep g (by omega) (by omega)];exact h.s,by rw [List.length_append];exact hM,hown h.k,hown h.b,fun j h1 h2=>by rw [hkeep j (by omega) h2];exact h.old j h1 h2,h.lt,h.below.grown hg (by omega) (fun q e=>by cases e;exact hl.1),Nat.le_trans hbs hg.size,fun p hp=>?_⟩⟩
 obtain ⟨a,b⟩:=h.x p hp
 exact ⟨by rw [hkeep p.1 (keeps_lt a) (by omega)];exact a,b⟩
theorem AtW.kind {g bm:Nat} {hm hk hb:List Hl} {vf vl vfe ve vk vb:Value} {X:List (Nat×Hl)} {B0:Nat} {w0 W8 W:World} (h:AtW g bm hm hk hb vf vl vfe ve vk vb X B0 w0 W8 W) (y:Hl) {v':Value} {w':World}
  (ho:w'.ownsRow (g+1) 5 1 v' (hk.length+1) (kindsV hk++[.int .u8 (y.2:Int)])) (hg:W.grownBy w' vk.ownBlock):AtW g bm hm (hk++[y]) hb vf vl vfe ve v' vb X B0 w0 W8 (w'.setCell ⟨g,5,none⟩ v'):=by
 have hl:=h.lt
 have hbs:=h.base
 have hne:∀ j,j≤g→vk.ownBlock≠some j:=fun j hj e=>by have:=(h.k.lt j e).1;omega
 have hkeep:∀ j,j≤g→w'.heap[j]?=W.heap[j]?:=fun j hj=>hg.block j (by omega) (fun e=>hne j hj e.symm)
 have hb':=other_row h.k hg h.b (by decide)
 refine ⟨?_,?_,?_,ownsRow_setCell_other hb' (fun e=>by have:=(hb'.lt g e).1;omega) _,fun j h1 h2=>?_,h.lt,(h.below.grown hg (by omega) (fun q e=>by have:=(h.k.lt q e).1;omega)).setCell (p:=⟨g,5,none⟩) (by show B0≤g;omega) _,by simp;have:=hg.size;omega,fun p hp=>?_⟩
 ·have:=heap_setCell_same w' g 5 _ _ v' (by rw [hkeep g (Nat.le_refl _)];exact h.s)
  exact this
 ·exact h.m.same (by rw [heap_setCell_other _ _ _ _ (show bm≠g by omega),hkeep bm (by omega)])
 ·rw [kindsV_snoc,List.length_append]
  exact ownsRow_setCell_other ho (fun e=>by have:=(ho.lt g e).1;omega) _
 ·rw [heap_setCell_other _ _ _ _ (show j≠g by omega),hkeep j (by omega)];exact h.old j h1 h2
 ·obtain ⟨a,b⟩:=h.x p hp
  have:=other_block h.k hg a (by decide)
  exact ⟨by rw [heap_setCell_other _ _ _ _ (show p.1≠g by omega)];exact this,b⟩
theorem AtW.bind {g bm:Nat} {hm hk hb:List Hl} {vf vl vfe ve vk vb:Value} {X:List (Nat×Hl)} {B0:Nat} {w0 W8 W:World} (h:AtW g bm hm hk hb vf vl vfe ve vk vb X B0 w0 W8 W) (y:Hl) {v':Value} {w':World}
  (ho:w'.ownsRow (g+1) 41 3 v' (hb.length+1) (bindsV (hb.map bind0)++[.string y.1,.int .i64 0,.int .i64 0])) (hg:W.grownBy w' vb.ownBlock):AtW g bm hm hk (hb++[y]) vf vl vfe ve vk v' X B0 w0 W8 (w'.setCell ⟨g,6,none⟩ v'):=by
 have hl:=h.lt
 have hbs:=h.base
 have hne:∀ j,j≤g→vb.ownBlock≠some j:=fun j hj e=>by have:=(h.b.lt j e).1;omega
 have hkeep:∀ j,j≤g→w'.heap[j]?=W.heap[j]?:=fun j hj=>hg.block j (by omega) (fun e=>hne j hj e.symm)
 have hk':=other_row h.b hg h.k (by decide)
 refine ⟨?_,?_,ownsRow_setCell_other hk' (fun e=>by have:=(hk'.lt g e).1;omega) _,?_,fun j h1 h2=>?_,h.lt,(h.below.grown hg (by omega) (fun q e=>by have:=(h.b.lt q e).1;omega)).setCell (p:=⟨g,6,none⟩) (by show B0≤g;omega) _,by simp;have:=hg.size;omega,fun p hp=>?_⟩
 ·have:=heap_setCell_same w' g 6 _ _ v' (by rw [hkeep g (Nat.le_refl _)];exact h.s)
  exact this
 ·exact h.m.same (by rw [heap_setCell_other _ _ _ _ (show bm≠g by omega),hkeep bm (by omega)])
 ·rw [binds0_snoc,List.length_append]
  exact ownsRow_setCell_other ho (fun e=>by have:=(ho.lt g e).1;omega) _
 ·rw [heap_setCell_other _ _ _ _ (show j≠g by omega),hkeep j (by omega)];exact h.old j h1 h2
 ·obtain ⟨a,b⟩:=h.x p hp
  have:=other_block h.b hg a (by decide)
  exact ⟨by rw [heap_setCell_other _ _ _ _ (show p.1≠g by omega)];exact this,b⟩
end Go.Proofs.YtlkheofphafofaaGreatDoor
namespace Go.Proofs.YtlkheofphafofaaGreatDoor
set_option linter.all false

def dupB (r:RuleM) (k:Nat) (s:ByteArray):Bool:=(r.holes.take k).any fun g=>decide (g.1=s)
def seenM (hs:List Hl) (x:ByteArray):Option Int:=if hs.any (fun g=>decide (g.1=x))=true then some 1 else none
theorem seenM_put (hs:List Hl) (h:Hl):(fun x=>if x=h.1 then some 1 else seenM hs x)=seenM (hs++[h]):=by
 funext x
 unfold seenM
 rw [List.any_append]
 by_cases e:x=h.1
 ·subst e;simp
 ·rw [if_neg e]
  have:(List.any [h] fun g=>decide (g.1=x))=false:=by simp;exact fun e2=>e e2.symm
  rw [this,Bool.or_false]
theorem take_snoc {α:Type} {l:List α} {k:Nat} (hk:k<l.length):l.take (k+1)=l.take k++[l[k]]:=by
 rw [List.take_add_one,List.getElem?_eq_getElem hk];rfl
theorem holeB_eq {r:RuleM} {k:Nat} (hk:k<r.holes.length):holeB r k=(!dupB r k (r.holes[k]).1&&(name (r.holes[k]).1&&(decide (1≤(r.holes[k]).2∧(r.holes[k]).2≤7)&&(decide (1≤placesZ r.fnd r.holes[k])&&decide (0≤placesZ r.by' r.holes[k]))))):=by
 unfold holeB dupB
 rw [List.getElem?_eq_getElem hk]
theorem ruleZ_10 {r:RuleM} (h:ruleTop r=false):ruleZ r=10:=by unfold ruleZ;rw [if_pos h]
theorem ruleZ_14 {r:RuleM} (h:ruleTop r=true) (c:16<r.holes.length∨2<sevN r.holes):ruleZ r=14:=by unfold ruleZ;rw [if_neg (by simp [h]),if_pos c]
theorem ruleZ_11 {r:RuleM} (h:ruleTop r=true) (c1:r.holes.length≤16) (c2:sevN r.holes≤2) {k:Nat} (hk:k<r.holes.length) (hb:holeB r k=false):ruleZ r=11:=by
 unfold ruleZ
 rw [if_neg (by simp [h]),if_neg (by omega),if_neg (fun hh=>by have:=hh k hk;rw [hb] at this;cases this)]
theorem ruleZ_0 {r:RuleM} (h:ruleTop r=true) (c1:r.holes.length≤16) (c2:sevN r.holes≤2) (hh:∀ i,i<r.holes.length→holeB r i=true):ruleZ r=0:=by
 unfold ruleZ
 rw [if_neg (by simp [h]),if_neg (by omega),if_pos hh]
theorem sevN_take {hs:List Hl} {k:Nat} (hk:k<hs.length):sevN (hs.take (k+1))=sevN (hs.take k)+(if isSev (hs[k]).2=true then 1 else 0):=by
 unfold sevN
 rw [take_snoc hk,List.filter_append,List.length_append]
 by_cases h:isSev (hs[k]).2=true
 ·simp [h]
 ·simp [h]
theorem sevN_all (hs:List Hl):sevN (hs.take hs.length)=sevN hs:=by rw [List.take_length]
theorem sevN_le (hs:List Hl):sevN hs≤hs.length:=List.length_filter_le _ _
end Go.Proofs.YtlkheofphafofaaGreatDoor
