/- Layer 20: what the maker holds in memory. -/
import Derived.Test.YtfalelkfhandfaaGreatDoorTerm3Mq
import Derived.Test.YtfalelkfhandfaaGreatDoorFindQMq
import Derived.Test.YtfalelkfhandfaaGreatDoorRuleBMq
import Derived.Test.YtfalelkfhandfaaGreatDoorPackMq
import Derived.Test.YtfalelkfhandfaaGreatDoorFindPMq
namespace Go.Proofs.YtfalelkfhandfaaGreatDoor
set_option linter.all false
open Go Go.RowKit

structure MkE where
 r:RuleM
 l:List Prt
 bs:List Bnd
 g:Nat
 B:Nat
 T:TypeId
 vh:Value
 vf:Value
 vy:Value
 vl:Value
 ve:Value
 vb:Value
def mkB (E:MkE) (ov fv:Value) (lg:Bool) (W:World):Prop:=W.heap[E.g]?=some (.cells #[.string E.r.nm,.int .u8 (E.r.goal:Int),E.vh,E.vf,E.vy,E.vl,E.ve,E.vb,ov,fv,.bool lg] E.T (0,0))
theorem mkB.cells {E:MkE} {ov fv:Value} {lg:Bool} {W:World} (h:mkB E ov fv lg W):W.cell? ⟨E.g,0,none⟩=some (.string E.r.nm)∧W.cell? ⟨E.g,1,none⟩=some (.int .u8 (E.r.goal:Int))∧W.cell? ⟨E.g,2,none⟩=some E.vh∧W.cell? ⟨E.g,3,none⟩=some E.vf∧W.cell? ⟨E.g,4,none⟩=some E.vy∧W.cell? ⟨E.g,5,none⟩=some E.vl∧W.cell? ⟨E.g,6,none⟩=some E.ve∧W.cell? ⟨E.g,7,none⟩=some E.vb∧W.cell? ⟨E.g,8,none⟩=some ov∧W.cell? ⟨E.g,9,none⟩=some fv∧W.cell? ⟨E.g,10,none⟩=some (.bool lg)∧∀ j,W.frozen? ⟨E.g,j,none⟩=false:=by
 unfold mkB at h
 simp [World.cell?,World.frozen?,h]
structure MkIn (w0:World) (E:MkE) (out:List PN) (lg:Bool) (ov fv:Value) (W:World):Prop where
 b:Below w0.heap.size w0 W
 s:mkB E ov fv lg W
 o:W.ownsRow E.B 38 3 ov out.length (zU (out.map (·.1)))
 f:W.ownsRow E.B 3 1 fv out.length (intsV (out.map (·.2)))
 g0:w0.heap.size≤E.g
 gB:E.g<E.B
 B:E.B≤W.heap.size
theorem MkIn.below {w0 W W':World} {E:MkE} {out:List PN} {lg:Bool} {ov fv:Value} (h:MkIn w0 E out lg ov fv W) (hb:Below W.heap.size W W'):MkIn w0 E out lg ov fv W' :=
 ⟨zB h.b hb,keeps hb h.s,zL h.o hb,zL h.f hb,h.g0,h.gB,by have:=h.B;have:=hb.size;omega⟩
theorem mkB.set {E:MkE} {ov fv:Value} {lg:Bool} {W:World} (h:mkB E ov fv lg W):(∀ v,mkB E v fv lg (W.setCell ⟨E.g,8,none⟩ v))∧(∀ v,mkB E ov v lg (W.setCell ⟨E.g,9,none⟩ v))∧(∀ b,mkB E ov fv b (W.setCell ⟨E.g,10,none⟩ (.bool b))):=by
 unfold mkB at *
 refine ⟨fun v=>?_,fun v=>?_,fun b=>?_⟩
 ·exact heap_setCell_same W E.g 8 _ _ v h
 ·exact heap_setCell_same W E.g 9 _ _ v h
 ·exact heap_setCell_same W E.g 10 _ _ (.bool b) h
theorem vU {W:World} {B g:Nat} {e:TypeId} {size n:Nat} {v:Value} {xs:List Value} (h:W.ownsRow B e size v n xs) (hg:g<B) (j:Nat) (u:Value):(W.setCell ⟨g,j,none⟩ u).ownsRow B e size v n xs :=
 ownsRow_setCell_other h (a:=⟨g,j,none⟩) (fun e=>by have:=(h.lt g e).1;omega) u
theorem MkIn.long {w0 W:World} {E:MkE} {out:List PN} {lg:Bool} {ov fv:Value} (h:MkIn w0 E out lg ov fv W) (b:Bool):MkIn w0 E out b ov fv (W.setCell ⟨E.g,10,none⟩ (.bool b))∧KpM E.B E.g W (W.setCell ⟨E.g,10,none⟩ (.bool b)) :=
 ⟨⟨h.b.setCell (p:=⟨E.g,10,none⟩) h.g0 _,h.s.set.2.2 b,vU h.o h.gB _ _,vU h.f h.gB _ _,h.g0,h.gB,by simpa using h.B⟩,(KpM.refl _ _ _).setG _ _⟩
theorem MkIn.app {w0 W:World} {E:MkE} {out:List PN} {lg:Bool} {ov fv:Value} (h:MkIn w0 E out lg ov fv W) (x:PN) (C1 C2:Array Value) (hC1:C1=#[.int .u8 (x.1.1:Int),.int .i64 x.1.2.1,.string x.1.2.2]) (hC2:C2=#[.int .i64 x.2]) (hn:out.length≤1000000) :
  ∃ v1 w1 v2 w2,(Builtin.append_ #[23,23] 23 #[ov,.slice (some ⟨W.heap.size,0,none⟩) 1 1]).run Tryz.prog (W.alloc (.cells C1 38))=.ok v1 w1 ∧
   (Builtin.append_ #[27,27] 27 #[fv,.slice (some ⟨w1.heap.size,0,none⟩) 1 1]).run Tryz.prog (w1.alloc (.cells C2 3))=.ok v2 w2 ∧
   MkIn w0 E (out++[x]) lg v1 v2 ((w2.setCell ⟨E.g,8,none⟩ v1).setCell ⟨E.g,9,none⟩ v2)∧KpM E.B E.g W ((w2.setCell ⟨E.g,8,none⟩ v1).setCell ⟨E.g,9,none⟩ v2)∧mkB E ov fv lg w2∧mkB E v1 fv lg (w2.setCell ⟨E.g,8,none⟩ v1):=by
 subst hC1 hC2
 have hBs:=h.B
 obtain ⟨v1,w1,r1,o1,g1,_⟩:=yH (P:=Tryz.prog) W #[.int .u8 (x.1.1:Int),.int .i64 x.1.2.1,.string x.1.2.2] 38 23 23 38 Tryz.underlying23 E.B kA rfl (by decide) ov out.length _ h.o 1 1 rfl (Nat.le_refl _) (by intro u hu;simp at hu;rcases hu with rfl | rfl | rfl <;> rfl) (by omega) (by omega) hBs
 have k0:=(KpM.refl E.B E.g W).alloc hBs (.cells #[.int .u8 (x.1.1:Int),.int .i64 x.1.2.1,.string x.1.2.2] 38)
 have oa:=h.o.alloc (.cells #[.int .u8 (x.1.1:Int),.int .i64 x.1.2.1,.string x.1.2.2] 38)
 have hBa:E.B≤(W.alloc (.cells #[.int .u8 (x.1.1:Int),.int .i64 x.1.2.1,.string x.1.2.2] 38)).heap.size:=by simp;omega
 have k1:=k0.grown oa hBa g1
 have f1:=xO oa g1 (h.f.alloc (.cells #[.int .u8 (x.1.1:Int),.int .i64 x.1.2.1,.string x.1.2.2] 38)) (by decide)
 have hB1:E.B≤w1.heap.size:=by have:=k1.size;omega
 obtain ⟨v2,w2,r2,f2,g2,_⟩:=yH (P:=Tryz.prog) w1 #[.int .i64 x.2] 3 27 27 3 Tryz.underlying27 E.B vW rfl (by decide) fv out.length _ f1 1 1 rfl (Nat.le_refl _) (by intro u hu;simp at hu;subst hu;rfl) (by omega) (by omega) hB1
 have k2a:=k1.alloc hB1 (.cells #[.int .i64 x.2] 3)
 have hB1a:E.B≤(w1.alloc (.cells #[.int .i64 x.2] 3)).heap.size:=by simp;omega
 have fa:=f1.alloc (.cells #[.int .i64 x.2] 3)
 have k2:=k2a.grown fa hB1a g2
 have o2:=xO fa g2 (o1.alloc (.cells #[.int .i64 x.2] 3)) (by decide)
 have hB2:E.B≤w2.heap.size:=by have:=k2.size;omega
 have hgl:=zD h.s
 have s2:mkB E ov fv lg w2:=by
  unfold mkB
  have e1:w1.heap[E.g]?=W.heap[E.g]?:=by
   rw [g1.block E.g (by simp;omega) (fun e=>by have:=(oa.lt E.g e.symm).1;have:=h.gB;omega),Below.heap_alloc _ _ _ hgl]
  have hl1:E.g<w1.heap.size:=by have:=h.gB;omega
  rw [g2.block E.g (by simp;omega) (fun e=>by have:=(fa.lt E.g e.symm).1;have:=h.gB;omega),Below.heap_alloc _ _ _ hl1,e1]
  exact h.s
 have s3:=s2.set.1 v1
 have s4:=s3.set.2.1 v2
 have hb2:Below w0.heap.size w0 w2:=k2.below h.b (by have:=h.g0;have:=h.gB;omega) h.g0
 refine ⟨v1,w1,v2,w2,r1,r2,⟨(hb2.setCell (p:=⟨E.g,8,none⟩) h.g0 _).setCell (p:=⟨E.g,9,none⟩) h.g0 _,s4,?_,?_,h.g0,h.gB,by simpa using hB2⟩,(k2.setG 8 v1).setG 9 v2,s2,s3⟩
 ·rw [List.length_append,List.map_append,yF]
  exact vU (vU o2 h.gB _ _) h.gB _ _
 ·rw [List.length_append,List.map_append,jQ]
  exact vU (vU f2 h.gB _ _) h.gB _ _
end Go.Proofs.YtfalelkfhandfaaGreatDoor
namespace Go.Proofs.YtfalelkfhandfaaGreatDoor
set_option linter.all false

theorem zSq {r:RuleM} {l:List Prt} {bs:List Bnd} (hr:ruleZ r=0) (hg:r.goal≠3) (hb:rightB r l bs=true) (hv:∀ h,∃ ts,zF (piece l (bOf bs h).1 (bOf bs h).2)=some ts):kE r l bs=1:=by
 have H:=(xQ hr).2.1
 have h0:=(yD H.well).1
 have hin:=gC (jK hb)
 have e1:outP r l bs=madeP r l bs:=by unfold outP;rw [if_neg hg]
 unfold kE
 rw [e1]
 cases ho:zM r.by' r.holes 0 with
 | none =>
  obtain ⟨ts,h1,h2⟩:=(zIj r.by' r.holes (fun h=>piece l (bOf bs h).1 (bOf bs h).2) hv (fuelZ r.by')).1 0
  have h3:=(zAg r.by' l r.holes (bOf bs) hin (fuelZ r.by')).1 0
  have h4:zF ((madeP r l bs).map (·.1))=some ts:=by rw [← h1];exact congrArg zF h3
  rw [jP h4,h2 ho h0 (by unfold fuelZ;omega)];rfl
 | some h =>
  obtain ⟨hh,hs⟩:=vC ho
  have u0:upN r.by' 0=-1:=rfl
  have k0:kindI r.by' (-1)=none:=by unfold kindI;rw [if_pos (by omega)]
  have hsv:isSev (r.holes[h]).2=false:=by
   cases e:isSev (r.holes[h]).2 with
   | false=>rfl
   | true =>
    exfalso
    unfold isSev at e
    simp at e
    rcases yQ hs with ⟨a1,a2,a3,a4,a5⟩ | ⟨a1,a2,a5⟩
    ·have h7:(r.holes[h]).2=7:=by unfold xM at a1;simp at a1;omega
     have:=H.plc h hh 1 a3 a5
     unfold xZ at this
     rw [h7,if_neg (by decide),if_pos rfl] at this
     have u1:(upN r.by' 1).toNat=0:=by
      unfold upN upI
      split <;> simp [upI]
     rw [u1,u0,k0] at this
     simp at this
    ·have h6:(r.holes[h]).2=6:=by unfold xM at a1;simp at a1;omega
     have:=H.plc h hh 0 a2 a5
     unfold xZ at this
     rw [h6,if_neg (by decide),if_neg (by decide),if_pos rfl,u0,k0] at this
     simp at this
  have hbl:=(vD.1 hb).1
  have hhb:h<bs.length:=by omega
  obtain ⟨_,hrg,_,h1⟩:=zIz ((vD.1 hb).2 h hh hhb)
  have h2:=(h1 hsv).1
  have e2:madeP r l bs=srcL l (bOf bs h).1 (bOf bs h).2:=zOe ho
  rw [e2,zAv l (hin h).1 (hin h).2,zEa hhb]
  exact h2
theorem kY {r:RuleM} {l:List Prt} {bs:List Bnd} (hb:rightB r l bs=true) (h:Nat):∃ ts,zF (piece l (bOf bs h).1 (bOf bs h).2)=some ts:=by
 by_cases hh:h<bs.length
 ·have hbl:=(vD.1 hb).1
  obtain ⟨_,_,h1,_⟩:=zIz ((vD.1 hb).2 h (by omega) hh)
  rw [zEa hh]
  unfold xE at h1
  cases e:zF (piece l (bs[h]).2.1.toNat (bs[h]).2.2.toNat) with
  | some ts=>exact ⟨ts,rfl⟩
  | none=>rw [e] at h1;simp at h1
 ·unfold bOf
  rw [List.getElem?_eq_none (by omega)]
  exact ⟨[],by unfold piece;simp;rfl⟩
theorem zPn {t l:List Prt} {hs:List Hl} {b:Nat→Nat×Nat} (hb:∀ h,(b h).1≤(b h).2∧(b h).2≤l.length) (hv:∀ h,∃ ts,zF (piece l (b h).1 (b h).2)=some ts) {n p:Nat} (ho:zM t hs p=none) (hp:p<t.length):cntP ((mPart t l hs b (n+1) p).map (·.1))=1:=by
 obtain ⟨ts,h1,h2⟩:=(zIj t hs (fun h=>piece l (b h).1 (b h).2) hv (n+1)).1 p
 rw [(zAg t l hs b hb (n+1)).1 p,jY h1,h2 ho hp (by omega)]
theorem zGr {l:List Prt} {ts:List Nat} (h:zF l=some ts):xE l=(cntP l:Int):=by rw [jP h,jY h]
theorem zPo (l:List Prt) {x i:Nat} (h:x≤i):srcL l x (i+1)=srcL l x i++[(zT l i,(i:Int))]:=by
 unfold srcL
 rw [show i+1-x=(i-x)+1 by omega,List.range'_1_concat,List.map_append,show x+(i-x)=i by omega];rfl
theorem zSr (l:List Prt) {a b c:Nat} (h1:a≤b) (h2:b≤c):srcL l a c=srcL l a b++srcL l b c:=by
 unfold srcL
 rw [← List.map_append,show c-a=(b-a)+(c-b) by omega]
 congr 1
 have:=List.range'_append (s:=a) (m:=b-a) (n:=c-b) (step:=1)
 rw [Nat.one_mul,show a+(b-a)=b by omega] at this
 exact this.symm
def mkGo (out:List PN) (lg:Bool) (M:List PN) (out':List PN) (lg':Bool):Prop:=(lg=false∧out.length+M.length≤131073→lg'=false∧out'=out++M)∧(¬ (lg=false∧out.length+M.length≤131073)→lg'=true)
theorem mkGo.nil (out:List PN) (lg:Bool) (h:out.length≤131073):mkGo out lg [] out lg:=by
 refine ⟨fun h1=>⟨h1.1,by simp⟩,fun h1=>?_⟩
 cases lg with
 | true=>rfl
 | false=>exact absurd ⟨rfl,by simpa using h⟩ h1
theorem mkGo.app {out o1 o2 A B:List PN} {lg l1 l2:Bool} (h:mkGo out lg A o1 l1) (k:mkGo o1 l1 B o2 l2):mkGo out lg (A++B) o2 l2:=by
 constructor
 ·rintro ⟨h1,h2⟩
  rw [List.length_append] at h2
  obtain ⟨e1,e2⟩:=h.1 ⟨h1,by omega⟩
  subst e2
  obtain ⟨e3,e4⟩:=k.1 ⟨e1,by rw [List.length_append];omega⟩
  exact ⟨e3,by rw [e4,List.append_assoc]⟩
 ·intro hn
  rw [List.length_append] at hn
  by_cases c:lg=false∧out.length+A.length≤131073
  ·obtain ⟨e1,e2⟩:=h.1 c
   refine k.2 fun hc=>hn ⟨c.1,?_⟩
   have:=hc.2
   rw [e2,List.length_append] at this
   omega
  ·have:=h.2 c
   exact k.2 fun hc=>by rw [this] at hc;cases hc.1
theorem mkGo.long {out o1 A B:List PN} {lg:Bool} (h:mkGo out lg A o1 true):mkGo out lg (A++B) o1 true:=by
 refine ⟨fun hc=>?_,fun _=>rfl⟩
 rw [List.length_append] at hc
 have:=(h.1 ⟨hc.1,by omega⟩).1
 cases this
theorem mkGo.same {out o1 A B:List PN} {lg:Bool} (h:mkGo out lg A o1 true) (hl:B.length=A.length):mkGo out lg B o1 true:=by
 refine ⟨fun hc=>?_,fun _=>rfl⟩
 have:=(h.1 ⟨hc.1,by omega⟩).1
 cases this
end Go.Proofs.YtfalelkfhandfaaGreatDoor
namespace Go.Proofs.YtfalelkfhandfaaGreatDoor
set_option maxRecDepth 100000
set_option maxHeartbeats 32000000
set_option linter.all false
attribute [local irreducible] Calls
attribute [local irreducible] wpStill
open Go.RowKit

@[irreducible] def eRel (w0:World) (E:CpE) (i q n:Nat) (W1:World) (ov nv:Value) (X:List Prt) (Y:List Int) (iv:Value) (wr:World):Prop :=
 ∃ (nth k m:Nat) (out':List Prt) (ns':List Int) (ov' nv':Value),iv=.int .i64 (nth:Int)∧nth≤q∧advT E.l nth (i+1) (zA E.l i)=some k∧CpIn w0 E out' ns' k ov' nv' wr∧KpC E.g ov nv ov' nv' W1 wr ∧
  out'++(gKids E.l E.fr m (zT E.l i) nth k (zA E.l i)).map (·.1)=X∧ns'++(gKids E.l E.fr m (zT E.l i) nth k (zA E.l i)).map (·.2)=Y∧2*(zA E.l i-k)+1≤m∧m≤n∧ns'.length=out'.length
theorem zRs {l:List Prt} {us:List Nat} (hl:zF l=some us) {i q nth k:Nat} (hi:i<l.length) (hq:advT l q (i+1) (zA l i)=some (zA l i)) (hk:advT l nth (i+1) (zA l i)=some k) (hn:nth<q):k<zA l i∧advT l (nth+1) (i+1) (zA l i)=some (zA l k)∧zA l k≤zA l i:=by
 have hg:=zJ hl hi
 obtain ⟨r1,r2,r3⟩:=vI hl hg.2 hq hk
 have hne:k≠zA l i:=by
  intro e
  subst e
  obtain ⟨J,hJ⟩:∃ J,q-nth=J+1:=⟨q-nth-1,by omega⟩
  rw [hJ] at r3
  rw [advT,if_neg (by omega)] at r3
  cases r3
 obtain ⟨hlt,J,_,hJ⟩:=yR r3 hne
 have h5:=yZ hl _ _ _ _ hg.2 hJ
 exact ⟨hlt,by rw [kS,hk,Option.bind_some,advT,if_pos hlt,advT],by omega⟩
theorem zJu {l:List Prt} {us:List Nat} (hl:zF l=some us) {stop:Nat} (hs:stop≤l.length):∀ n k b,advT l n k stop=some b→k+n≤b
 | 0,k,b,h=>by rw [advT] at h;cases h;omega
 | n+1,k,b,h=>by
  rw [advT] at h
  split at h
  ·rename_i hlt
   have h1:=zJu hl hs n _ b h
   have h2:=(zJ hl (show k<l.length by omega)).1
   omega
  ·cases h
theorem zUw (w0:World) (E:CpE) (F:CpF w0 E) (n:Nat) (ihP:∀ m,m<n→PutC w0 E m) (W:World) (out:List Prt) (ns:List Int) (i:Nat) (ov nv:Value) (hi:CpIn w0 E out ns (i+1) ov nv W) (hil:i<E.l.length) (hfu:2*(zA E.l i-(i+1))+1≤n) (hlen:out.length+(gKids E.l E.fr n (zT E.l i) 0 (i+1) (zA E.l i)).length≤1000000000) (hns:ns.length=out.length) :
  Calls Tryz.prog 64 #[.pointer (some ⟨E.g,0,none⟩),partA (zT E.l i),.func (.func 43) #[.pointer (some ⟨E.g,0,none⟩)] #[]] W (cpPost w0 E out ns ov nv (gKids E.l E.fr n (zT E.l i) 0 (i+1) (zA E.l i)) (zA E.l i) W):=by
 obtain ⟨q,hq1,hq2,hq3,hq4⟩:=zGn (zI F.w) hil
 have hgg:=zJ (zI F.w) hil
 have hpt:zT E.l i=E.l[i]:=by unfold zT;simp [List.getD_eq_getElem?_getD,hil]
 have hps:(zT E.l i).2.2.size≤1048576:=by rw [hpt];exact (F.s.2 _ (List.getElem_mem hil)).2
 have hq9:q≤1048576:=by
  have h1:=F.s.1
  have h2:=zJu (zI F.w) hgg.2 _ _ _ hq2
  omega
 have hgl:=zD hi.s
 have HBX:=Hd ((Below.refl W.heap.size W).alloc (Nat.le_refl _) (.cells #[.int .u8 ((zT E.l i).1:Int),.int .i64 (zT E.l i).2.1,.string (zT E.l i).2.2] 38))
 have HP1:=Hd (PK.alloc_new W (zT E.l i))
 have HC1:=Hd (hi.below HBX.out)
 have HK1:=Hd (KpC.of_below (g:=E.g) (ov:=ov) (nv:=nv) HBX.out)
 have HTG:Hid (W.heap.size≠E.g):=Hd (by omega)
 have HTO:Hid (ov.ownBlock≠some W.heap.size):=Hd (fun e=>by have:=(hi.o.lt _ e).2;omega)
 have HTN:Hid (nv.ownBlock≠some W.heap.size):=Hd (fun e=>by have:=(hi.f.lt _ e).2;omega)
 have hk2:(zT E.l i).2.1=(q:Int):=by rw [hpt];exact hq1
 have HF:=Hd F
 have HPP:=Hd (rfl:zT E.l i=zT E.l i)
 obtain ⟨X,hX⟩:∃ X,out++(gKids E.l E.fr n (zT E.l i) 0 (i+1) (zA E.l i)).map (·.1)=X:=⟨_,rfl⟩
 obtain ⟨Y,hY⟩:∃ Y,ns++(gKids E.l E.fr n (zT E.l i) 0 (i+1) (zA E.l i)).map (·.2)=Y:=⟨_,rfl⟩
 have hXl:X.length≤1000000000:=by rw [← hX];simp;omega
 have HQ:Hid (∀ W1 w' ov' nv' v,KpC E.g ov nv ov nv W W1→CpIn w0 E X Y (zA E.l i) ov' nv' w'→KpC E.g ov nv ov' nv' W1 w'→cpPost w0 E out ns ov nv (gKids E.l E.fr n (zT E.l i) 0 (i+1) (zA E.l i)) (zA E.l i) W (.returned v) w'):=Hd fun W1 w' ov' nv' v h1 hc hk=>by
  unfold cpPost
  exact ⟨ov',nv',v,rfl,by rw [hX,hY];exact hc,h1.trans hk⟩
 have HR0:Hid (∀ W1,CpIn w0 E out ns (i+1) ov nv W1→eRel w0 E i q n W1 ov nv X Y (.int .i64 0) W1):=Hd fun W1 hc=>by
  unfold eRel
  exact ⟨0,i+1,n,out,ns,ov,nv,rfl,Nat.zero_le _,rfl,hc,KpC.refl _ _ _ _,hX,hY,hfu,Nat.le_refl _,hns⟩
 generalize cpPost w0 E out ns ov nv (gKids E.l E.fr n (zT E.l i) 0 (i+1) (zA E.l i)) (zA E.l i) W=Q at *
 clear hX hY hpt hq1 hi F hlen hns
 unfold partA
 have HKQ:=Hd hk2
 rw [hk2] at HBX HP1 HC1 HK1 ⊢
 clear hk2 hq3 hq4
 go_enter Tryz.func64,Tryz.ntmps64
 go_upto_region 1 with (fail)
 generalize W.alloc (.cells #[.int .u8 ((zT E.l i).1:Int),.int .i64 (q:Int),.string (zT E.l i).2.2] 38)=W1 at *
 have p1:=HP1.out.c1
 rw [HKQ.out] at p1
 go_wp2_with fail
 clear p1
 go_loopw [9] (fun iv wr=>eRel w0 E i q n W1 ov nv X Y iv wr) (fun iv _=>q-(intOf iv).toNat)
 case atStart=>exact HR0.out W1 HC1.out
 case round =>
  unfold eRel at hrel
  obtain ⟨nth,k,m,out',ns',ov',nv',rfl,hnq,hk,hc,hkp,hx,hy,hm,hmn,hns'⟩:=hrel
  by_cases hlt:nth<q
  ·obtain ⟨hks,hk',hke⟩:=zRs (zI HF.out.w) hil hq2 hk hlt
   obtain ⟨m,rfl⟩:∃ m',m=m'+1:=⟨m-1,by omega⟩
   rw [gKids,if_neg (by omega)] at hx hy
   have hkl:k<E.l.length:=by omega
   have HPr:Hid (PK wr W.heap.size (zT E.l i)):=Hd (by
    have h:=HP1.out
    unfold PK at *
    rw [hkp.low _ (lt_of_block h) HTG.out HTO.out HTN.out];exact h)
   have hto:ov'.ownBlock≠some W.heap.size:=zMf HP1.out hkp HTO.out
   have htn:nv'.ownBlock≠some W.heap.size:=fun e=>by
    have hl:=lt_of_block HP1.out
    rcases hkp.nn _ e with e | e
    ·exact HTN.out e
    ·omega
   have HTO':=Hd hto;have HTN':=Hd htn
   have HLA:=HF.out.L
   obtain ⟨la,lc,hvl,hlc⟩:=HF.out.L.slice
   rw [hvl] at HLA
   obtain ⟨lb,lo,rfl,y1,y2,y3,y4⟩:=HLA.at (Below.refl _ _) (show 0<E.l.length by omega)
   clear y1 y2 y3 y4
   have hpk:zT E.l k=E.l[k]:=by unfold zT;simp [List.getD_eq_getElem?_getD,hkl]
   have hpks:(zT E.l k).2.2.size≤1048576:=by rw [hpk];exact (HF.out.s.2 _ (List.getElem_mem hkl)).2
   have HSF:Hid (∀ W',Below wr.heap.size wr W'→W'.cell? ⟨E.g,0,none⟩=some (.slice (some ⟨lb,lo,none⟩) E.l.length lc)∧W'.cell? ⟨E.g,4,none⟩=some (.int .i64 (k:Int))∧W'.cell? ⟨lb,lo+k*3,none⟩=some (.int .u8 ((zT E.l k).1:Int))∧W'.cell? ⟨lb,lo+k*3+1,none⟩=some (.int .i64 (zT E.l k).2.1)∧W'.cell? ⟨lb,lo+k*3+2,none⟩=some (.string (zT E.l k).2.2)∧W'.cell? ⟨W.heap.size,0,none⟩=some (.int .u8 ((zT E.l i).1:Int))∧W'.cell? ⟨W.heap.size,1,none⟩=some (.int .i64 (zT E.l i).2.1)∧W'.cell? ⟨W.heap.size,2,none⟩=some (.string (zT E.l i).2.2)∧Hid (Below wr.heap.size wr W')):=Hd fun W' hb=>by
    have hc':=hc.below hb
    have hp':=HPr.out.keep hb
    obtain ⟨b2,o2,e',_,_,_,hcc⟩:=HLA.at hc'.b (show 0<E.l.length by omega)
    simp only [Option.some.injEq,Addr.mk.injEq,and_true] at e'
    obtain ⟨rfl,rfl⟩:=e'
    obtain ⟨d0,d1,d2⟩:=hcc k hkl
    rw [hpk]
    exact ⟨by rw [hc'.s.cells.1,hvl],hc'.s.cells.2.2.2.2.1,d0,d1,d2,hp'.c0,hp'.c1,hp'.c2,Hd hb⟩
   have hwb:Below w0.heap.size w0 wr:=hc.b
   have CV:=Hd (fun W' (hb:Below wr.heap.size wr W')=>zCl (zT E.l k) hpks W' ((HF.out.M.below hwb).below hb))
   have CE:=Hd (fun W' (hb:Below wr.heap.size wr W')=>zKc (zT E.l i) nth (by omega) hps W' ((HF.out.M.below hwb).below hb))
   unfold partA at CV CE
   have HC:=Hd hc;have HKP:=Hd hkp;have HNS:=Hd hns';have HXX:=Hd hx;have HYY:=Hd hy
   have hk0:(0:Int)≤(k:Int):=by omega
   have hkll:(k:Int)<E.l.length:=by omega
   have hklc:(k:Int)<(lc:Int):=by omega
   clear hc hkp hns' hx hy hto htn hvl HLA hpk hwb
   go_upto_region 4 with (fail)
   have HBd:=Hd (Below.refl wr.heap.size wr).drew
   refine fE (fun a a' w'=>a'=(((((((((((((((a.put (some 12) (.pointer (some ⟨E.g,0,none⟩))).put (some 13) (.pointer (some ⟨E.g,0,none⟩))).put (some 14) (.pointer (some ⟨E.g,0,none⟩))).put (some 15) (.slice (some ⟨lb,lo,none⟩) E.l.length lc)).put (some 16) (.pointer (some ⟨E.g,0,none⟩))).put (some 17) (.pointer (some ⟨E.g,0,none⟩))).put (some 18) (.pointer (some ⟨E.g,4,none⟩))).put (some 19) (.int .i64 (k:Int))).put (some 20) (.pointer (some ⟨lb,lo+k*3,none⟩))).put (some 21) (.agg #[.int .u8 ((zT E.l k).1:Int),.int .i64 (zT E.l k).2.1,.string (zT E.l k).2.2])).put (some 22) (.int .i64 (yP (zT E.l k):Int))).put (some 23) (.agg #[.int .u8 ((zT E.l i).1:Int),.int .i64 (zT E.l i).2.1,.string (zT E.l i).2.2])).put (some 24) (.int .i64 (nth:Int))).put (some 25) (.int .i64 (yK (zT E.l i) nth:Int))).put (some 26) (.bool (decide (yP (zT E.l k)<yK (zT E.l i) nth))))∧Hid (Below wr.heap.size wr w')) ?_ ?_
   ·go_region_held3 (fun W'=>W'.cell? ⟨E.g,0,none⟩=some (.slice (some ⟨lb,lo,none⟩) E.l.length lc)∧W'.cell? ⟨E.g,4,none⟩=some (.int .i64 (k:Int))∧W'.cell? ⟨lb,lo+k*3,none⟩=some (.int .u8 ((zT E.l k).1:Int))∧W'.cell? ⟨lb,lo+k*3+1,none⟩=some (.int .i64 (zT E.l k).2.1)∧W'.cell? ⟨lb,lo+k*3+2,none⟩=some (.string (zT E.l k).2.2)∧W'.cell? ⟨W.heap.size,0,none⟩=some (.int .u8 ((zT E.l i).1:Int))∧W'.cell? ⟨W.heap.size,1,none⟩=some (.int .i64 (zT E.l i).2.1)∧W'.cell? ⟨W.heap.size,2,none⟩=some (.string (zT E.l i).2.2)∧Hid (Below wr.heap.size wr W'))
     (first | exact HSF.out _ HBd.out | exact HSF.out _ (zB HBd.out hbA) | exact HSF.out _ (zB HBd.out hbB) | exact HSF.out _ (zB (zB HBd.out hbA) hbB) | exact HSF.out _ (zB (zB HBd.out hbB) hbA))
     (first
      | (go_at_call 86;refine (CV.out _ (by first | exact HBd.out | exact zB HBd.out hbB)).mono ?_;rintro e wA ⟨rfl,hbA⟩;(try dsimp only))
      | (go_at_call 87;refine (CE.out _ (by first | exact HBd.out | exact zB HBd.out hbA)).mono ?_;rintro e wB ⟨rfl,hbB⟩;(try dsimp only)))
    all_goals
     rename_i hH
     obtain ⟨_,_,_,_,_,_,_,_,HBE⟩:=hH
     exact ⟨by kernel_rfl,HBE⟩
   rintro _ w4 ⟨rfl,HB4⟩
   (try simp only [aP])
   have HC4:=Hd (HC.out.below HB4.out)
   have HK4:=Hd (HKP.out.trans (KpC.of_below HB4.out))
   clear HC HKP HB4 CV CE HSF HPr HTO' HTN'
   have HST:Hid (∀ w7 ov7 nv7,CpIn w0 E (out'++(brk (zT E.l i) nth (zT E.l k)).map (·.1)++(gPart E.l E.fr m k).map (·.1)) (ns'++(brk (zT E.l i) nth (zT E.l k)).map (·.2)++(gPart E.l E.fr m k).map (·.2)) (zA E.l k) ov7 nv7 w7→KpC E.g ov nv ov7 nv7 W1 w7→eRel w0 E i q n W1 ov nv X Y (.int .i64 ((nth:Int)+1)) w7):=Hd fun w7 ov7 nv7 hc hkp=>by
    have hx:=HXX.out;have hy:=HYY.out;have hn:=HNS.out
    unfold eRel
    refine ⟨nth+1,zA E.l k,m,_,_,ov7,nv7,by push_cast;rfl,hlt,hk',hc,hkp,by rw [← hx];simp [List.append_assoc],by rw [← hy];simp [List.append_assoc],?_,by omega,by simp [hn]⟩
    have:=(zJ (zI HF.out.w) hkl).1
    omega
   have HLN:Hid (out'.length+(brk (zT E.l i) nth (zT E.l k)).length+(gPart E.l E.fr m k).length≤1000000000):=Hd (by
    have h:=congrArg List.length HXX.out
    simp only [List.length_append,List.length_map] at h
    omega)
   have hfuel:2*(zA E.l k-k)≤m:=by omega
   have HBK:Hid (brk (zT E.l i) nth (zT E.l k)=if yP (zT E.l k)<yK (zT E.l i) nth then [paren] else []):=Hd (by unfold brk;rw [← zKd];by_cases h:yP (zT E.l k)<yK (zT E.l i) nth <;> simp [h])
   clear HXX HYY hk hk' hm
   by_cases hz:yP (zT E.l k)<yK (zT E.l i) nth
   ·have hz1:decide (yP (zT E.l k)<yK (zT E.l i) nth)=true:=decide_eq_true hz
    have hzi:((yP (zT E.l k):Nat):Int)<(yK (zT E.l i) nth:Int):=by omega
    have hbk:=HBK.out
    rw [if_pos hz] at hbk
    rw [hbk] at HST HLN
    clear hbk HBK
    have hol:out'.length≤1000000000:=by have:=HLN.out;omega
    have hnl:ns'.length≤1000000000:=by rw [HNS.out];exact hol
    go_upto_region 5 with (fail)
    obtain ⟨c0,c1,c2,c3,c4,cz⟩:=HC4.out.s.cells
    obtain ⟨v5,w5,hr5,hs5,hc5,hk5⟩:=HC4.out.part (28,1,ByteArray.empty) (by omega)
    obtain ⟨v5a,v5n,v5c,rfl⟩:=zC hc5.o
    obtain ⟨e0,e1,e2,e3,e4,ez⟩:=hs5.cells
    have HC5:=Hd hc5;have HK5:=Hd (HK4.out.trans hk5)
    clear hs5 hc5 hk5
    go_upto_region 6 with (at_builtin;refine yA rfl _ _ _ _ hr5 rfl rfl rfl rfl ?_)
    clear c0 c1 c2 c3 c4 cz e0 e1 e2 e3 e4 ez hr5 HC4 HK4
    generalize w5.setCell ⟨E.g,2,none⟩ (.slice v5a v5n v5c)=w5' at *
    obtain ⟨c0,c1,c2,c3,c4,cz⟩:=HC5.out.s.cells
    obtain ⟨v6,w6,hr6,hs6,hc6,hk6⟩:=HC5.out.num (-1) (by omega)
    obtain ⟨v6a,v6n,v6c,rfl⟩:=zC hc6.f
    obtain ⟨e0,e1,e2,e3,e4,ez⟩:=hs6.cells
    have HC6:=Hd hc6;have HK6:=Hd (HK5.out.trans hk6)
    clear hs6 hc6 hk6
    go_upto_region 7 with (at_builtin;refine yA rfl _ _ _ _ hr6 rfl rfl rfl rfl ?_)
    clear c0 c1 c2 c3 c4 cz e0 e1 e2 e3 e4 ez hr6 HC5 HK5
    generalize w6.setCell ⟨E.g,3,none⟩ (.slice v6a v6n v6c)=w6' at *
    go_wp2_with fail
    have hp:=ihP m (by omega)
    unfold PutC at hp
    refine (hp w6' _ _ k _ _ HC6.out hkl hfuel (by have:=HLN.out;simp only [List.length_append,List.length_singleton] at *;omega) (by have:=HNS.out;simp only [List.length_append,List.length_singleton];omega)).mono ?_
    clear hp
    intro e w7 hp
    unfold cpPost at hp
    obtain ⟨ov7,nv7,v7,rfl,hc7,hk7⟩:=hp
    have HRL:=Hd (HST.out w7 ov7 nv7 hc7 (HK6.out.trans hk7))
    clear hc7 hk7
    go_wp2_with fail
    go_roundw
    case rel=>exact HRL.out
    case measure=>simp only [intOf];omega
   ·have hz1:decide (yP (zT E.l k)<yK (zT E.l i) nth)=false:=decide_eq_false hz
    have hzi:¬ ((yP (zT E.l k):Nat):Int)<(yK (zT E.l i) nth:Int):=by omega
    have hbk:=HBK.out
    rw [if_neg hz] at hbk
    rw [hbk] at HST HLN
    simp only [List.map_nil,List.append_nil,List.length_nil,Nat.add_zero] at HST HLN
    clear hbk HBK
    go_wp2_with fail
    have hp:=ihP m (by omega)
    unfold PutC at hp
    refine (hp w4 _ _ k _ _ HC4.out hkl hfuel HLN.out HNS.out).mono ?_
    clear hp
    intro e w7 hp
    unfold cpPost at hp
    obtain ⟨ov7,nv7,v7,rfl,hc7,hk7⟩:=hp
    have HRL:=Hd (HST.out w7 ov7 nv7 hc7 (HK4.out.trans hk7))
    clear hc7 hk7
    go_wp2_with fail
    go_roundw
    case rel=>exact HRL.out
    case measure=>simp only [intOf];omega
  ·obtain rfl:nth=q:=by omega
   obtain rfl:zA E.l i=k:=by rw [hq2] at hk;exact Option.some.inj hk
   cases m with
   | zero=>omega
   | succ m =>
    rw [gKids,if_pos rfl,List.map_nil,List.append_nil] at hx hy
    subst hx;subst hy
    have HZ:Hid (∀ v,Q (.returned v) wr):=Hd fun v=>HQ.out W1 wr ov' nv' v HK1.out hc hkp
    clear hc hkp
    go_wp2_with fail
    go_end0
    exact HZ.out _
end Go.Proofs.YtfalelkfhandfaaGreatDoor
namespace Go.Proofs.YtfalelkfhandfaaGreatDoor
set_option linter.all false
attribute [local irreducible] Calls
open Go.RowKit

theorem zRq (w0:World) (E:CpE) (F:CpF w0 E):∀ n,(∀ m,m≤n→PutC w0 E m)∧(∀ m,m≤n→EachC w0 E m)
 | 0=>by
  constructor
  ·intro m hm
   obtain rfl:m=0:=by omega
   unfold PutC
   intro W out ns i ov nv hc hi h
   have:=(zJ (zI F.w) hi).1
   omega
  ·intro m hm
   obtain rfl:m=0:=by omega
   unfold EachC
   intro W out ns i ov nv hc hi h
   omega
 | n+1=>by
  obtain ⟨h1,h2⟩:=zRq w0 E F n
  constructor
  ·intro m hm
   by_cases e:m≤n
   ·exact h1 m e
   ·obtain rfl:m=n+1:=by omega
    unfold PutC
    intro W out ns i ov nv hc hi hf hl hn
    exact zWk w0 E F n (h2 n (Nat.le_refl n)) W out ns i ov nv hc hi hf hl hn
  ·intro m hm
   by_cases e:m≤n
   ·exact h2 m e
   ·obtain rfl:m=n+1:=by omega
    unfold EachC
    intro W out ns i ov nv hc hi hf hl hn
    exact zUw w0 E F (n+1) (fun m hm=>h1 m (by omega)) W out ns i ov nv hc hi hf hl hn
theorem zUv (l:List Prt) (fr:List Int) (j:Nat):(gOne l fr j).length≤2:=by
 unfold gOne
 split <;> simp
theorem zOb (l:List Prt) (fr:List Int):∀ n a,((List.range' a n).flatMap (gOne l fr)).length≤2*n
 | 0,a=>by simp
 | n+1,a=>by
  have h1:=zOb l fr n (a+1)
  have h2:=zUv l fr a
  rw [List.range'_succ,List.flatMap_cons,List.length_append]
  omega
theorem zGj (l:List Prt) (fr:List Int):(guardZ l fr).length≤2*l.length:=by
 unfold guardZ gSeg
 have:=zOb l fr (l.length-0) 0
 omega
theorem zRr (w0:World) (E:CpE) (F:CpF w0 E) (W:World) (ov nv:Value) (hi:CpIn w0 E [] [] 0 ov nv W) :
  Calls Tryz.prog 43 #[.pointer (some ⟨E.g,0,none⟩)] W (cpPost w0 E [] [] ov nv (guardZ E.l E.fr) E.l.length W):=by
 have h0:=yD F.w
 have h:=(zRq w0 E F (2*E.l.length)).1 _ (Nat.le_refl _)
 unfold PutC at h
 have h1:=zGj E.l E.fr
 have h2:=F.s.1
 have:=h W [] [] 0 ov nv hi h0.1 (by rw [h0.2];omega) (by rw [zDy E.l E.fr F.w];simp;omega) rfl
 rw [zDy E.l E.fr F.w,h0.2] at this
 exact this
end Go.Proofs.YtfalelkfhandfaaGreatDoor
namespace Go.Proofs.YtfalelkfhandfaaGreatDoor
set_option maxRecDepth 100000
set_option maxHeartbeats 32000000
set_option linter.all false
attribute [local irreducible] Calls
attribute [local irreducible] wpStill
open Go.RowKit

theorem jT {W:World} {B B':Nat} {e:TypeId} {size n:Nat} {v:Value} {xs:List Value} (h:W.ownsRow B e size v n xs) (hB:B'≤B):W.ownsRow B' e size v n xs:=by
 obtain ⟨h1,h2⟩:=h
 refine ⟨h1,?_⟩
 rcases h2 with h2 | ⟨g,cap,cur,a1,a2,a3⟩
 ·exact Or.inl h2
 ·exact Or.inr ⟨g,cap,cur,a1,Nat.le_trans hB a2,a3⟩
@[irreducible] def kC (w:World) (l:List Prt) (fr:List Int) (e:Ending) (w':World):Prop :=
 Below w.heap.size w w' ∧
  if zZ l=false then e=.returned (.tuple #[.slice none 0 0,.slice none 0 0,.int .i64 8])
  else if fr.length≠l.length then e=.returned (.tuple #[.slice none 0 0,.slice none 0 0,.int .i64 1])
  else ∃ ov nv,e=.returned (.tuple #[ov,nv,.int .i64 0])∧w'.ownsRow w.heap.size 38 3 ov (guardZ l fr).length (zU ((guardZ l fr).map (·.1)))∧w'.ownsRow w.heap.size 3 1 nv (guardZ l fr).length (intsV ((guardZ l fr).map (·.2)))
theorem zDz (w:World) (l:List Prt) (fr:List Int) (vl vf:Value) (hL:zG w vl l) (hF:zK w vf .i64 fr) (hs:SmallL l) (hM:MaxC w) :
  Calls Tryz.prog 22 #[vl,vf] w (kC w l fr):=by
 have CW:=Hd (jR l (by have:=hs.1;omega) vl w hL)
 obtain ⟨la,lc,hvl,hlc⟩:=hL.slice
 obtain ⟨fa,fc,hvf,hfc,_⟩:=hF.open'
 have HNO:Hid (zZ l=false→∀ w',Below w.heap.size w w'→kC w l fr (.returned (.tuple #[.slice none 0 0,.slice none 0 0,.int .i64 8])) w'):=Hd fun h w' hb=>by
  unfold kC;rw [if_pos h];exact ⟨hb,rfl⟩
 have HN2:Hid (zZ l=true→fr.length≠l.length→∀ w',Below w.heap.size w w'→kC w l fr (.returned (.tuple #[.slice none 0 0,.slice none 0 0,.int .i64 1])) w'):=Hd fun h h2 w' hb=>by
  unfold kC;rw [if_neg (by rw [h];decide),if_pos h2];exact ⟨hb,rfl⟩
 have HYES:Hid (zZ l=true→fr.length=l.length→∀ w' ov nv,Below w.heap.size w w'→w'.ownsRow w.heap.size 38 3 ov (guardZ l fr).length (zU ((guardZ l fr).map (·.1)))→w'.ownsRow w.heap.size 3 1 nv (guardZ l fr).length (intsV ((guardZ l fr).map (·.2)))→kC w l fr (.returned (.tuple #[ov,nv,.int .i64 0])) w'):=Hd fun h h2 w' ov nv hb ho hn=>by
  unfold kC;rw [if_neg (by rw [h];decide),if_neg (by simp [h2])];exact ⟨hb,ov,nv,rfl,ho,hn⟩
 generalize kC w l fr=Q at *
 subst hvl;subst hvf
 have HL:=Hd hL;have HF:=Hd hF;have HS:=Hd hs;have HM:=Hd hM
 clear hL hF hs hM
 go_enter Tryz.func22,Tryz.ntmps22
 go_wp2_with fail
 refine CW.out.mono ?_
 rintro e w1 ⟨rfl,hb1⟩
 cases hw:zZ l with
 | false =>
  have HZ:=Hd (HNO.out hw w1 hb1)
  go_wp2_with fail
  exact HZ.out
 | true =>
  by_cases hn:fr.length=l.length
  ·have hn1:(fr.length:Int)=(l.length:Int):=by omega
   go_upto_region 5 with (fail)
   go_upto_region 6 with (fail)
   have hFl:zK w (.slice fa l.length fc) .i64 fr:=by have h:=HF.out;rwa [hn] at h
   obtain ⟨E,hE⟩:∃ E:CpE,E=⟨l,fr,w1.heap.size,w1.heap.size+1,85,.slice la l.length lc,.slice fa l.length fc⟩:=⟨_,rfl⟩
   have HCF:CpF w1 E:=by subst hE;exact ⟨HL.out.below hb1,hFl.below hb1,hw,hn,HS.out,HM.out.below hb1⟩
   have HCI:CpIn w1 E [] [] 0 (.slice none 0 0) (.slice none 0 0) (w1.alloc (.cells #[.slice la l.length lc,.slice fa l.length fc,.slice none 0 0,.slice none 0 0,.int .i64 0] 85)):=by
    subst hE
    exact ⟨(Below.refl _ _).alloc (Nat.le_refl _) _,heap_alloc_new _ _,World.ownsRow_nil _ _ _ _,World.ownsRow_nil _ _ _ _,Nat.le_refl _,Nat.lt_succ_self _,by simp⟩
   have CG:=Hd (zRr w1 E HCF _ _ _ HCI)
   have HG:Hid (E.g=w1.heap.size∧E.l=l∧E.fr=fr∧E.B=w1.heap.size+1):=Hd (by subst hE;exact ⟨rfl,rfl,rfl,rfl⟩)
   rw [HG.out.1,HG.out.2.1,HG.out.2.2.1] at CG
   clear HCF HCI hE hFl
   go_wp2_with fail
   refine CG.out.mono ?_
   intro e w3 hp
   unfold cpPost at hp
   obtain ⟨ov,nv,v,rfl,hc,hk⟩:=hp
   have hB3:Below w.heap.size w w3:=zB hb1 hc.b
   have hgB:=HG.out.1
   have HSC:Hid (∀ W',Below w3.heap.size w3 W'→W'.cell? ⟨w1.heap.size,2,none⟩=some ov∧W'.cell? ⟨w1.heap.size,3,none⟩=some nv):=Hd fun W' hb=>by
    have h:=(hc.below hb).s.cells
    rw [hgB] at h
    exact ⟨h.2.2.1,h.2.2.2.1⟩
   have HZ:Hid (Q (.returned (.tuple #[ov,nv,.int .i64 0])) w3.drew):=Hd (by
    have h:=hc.below (Below.refl _ _).drew
    refine HYES.out hw hn w3.drew ov nv (zB hB3 (Below.refl _ _).drew) ?_ ?_
    ·have:=jT h.o (show w.heap.size≤E.B by have:=HG.out.2.2.2;have:=hb1.size;omega)
     simpa using this
    ·have:=jT h.f (show w.heap.size≤E.B by have:=HG.out.2.2.2;have:=hb1.size;omega)
     simpa using this)
   clear hc hk hB3 hgB CG
   go_upto_region 7 with (fail)
   go_region_held3 (fun W'=>W'.cell? ⟨w1.heap.size,2,none⟩=some ov∧W'.cell? ⟨w1.heap.size,3,none⟩=some nv) (exact HSC.out _ (Below.refl _ _).drew) (fail)
   go_wp2_with fail
   exact HZ.out
  ·have hn1:¬ (fr.length:Int)=(l.length:Int):=by omega
   have HZ:=Hd (HN2.out hw hn w1 hb1)
   go_wp2_with fail
   exact HZ.out
end Go.Proofs.YtfalelkfhandfaaGreatDoor
namespace Go.Proofs.YtfalelkfhandfaaGreatDoor
set_option maxRecDepth 100000
set_option maxHeartbeats 32000000
set_option linter.all false
attribute [local irreducible] Calls
open Go.RowKit

@[irreducible] def putPost (w:World) (l:List Prt) (e:Ending) (w':World):Prop :=
 Below w.heap.size w w'∧∃ ov,e=.returned (.tuple #[ov,.int .i64 0])∧w'.ownsRow w.heap.size 38 3 ov (guardZ l (List.replicate l.length 0)).length (zU ((guardZ l (List.replicate l.length 0)).map (·.1)))
theorem zQr (w:World) (l:List Prt) (vl:Value) (hL:zG w vl l) (hs:SmallL l) (hM:MaxC w) (hw:zZ l=true) :
  Calls Tryz.prog 13 #[vl] w (putPost w l):=by
 have HQ:Hid (∀ ov w',Below w.heap.size w w'→w'.ownsRow w.heap.size 38 3 ov (guardZ l (List.replicate l.length 0)).length (zU ((guardZ l (List.replicate l.length 0)).map (·.1)))→putPost w l (.returned (.tuple #[ov,.int .i64 0])) w'):=Hd fun ov w' h1 h2=>by
  unfold putPost;exact ⟨h1,ov,rfl,h2⟩
 generalize putPost w l=Q at *
 have hmk:=vQ l.length (by have:=hs.1;omega)
 obtain ⟨la,lc,rfl,hlc⟩:=hL.slice
 have hb0:Below w.heap.size w (w.alloc (.cells (Array.replicate l.length (Value.int .i64 0)) 3)):=(Below.refl _ _).alloc (Nat.le_refl _) _
 have hrow:zK (w.alloc (.cells (Array.replicate l.length (Value.int .i64 0)) 3)) (.slice (some ⟨w.heap.size,0,none⟩) l.length l.length) .i64 (List.replicate l.length 0):=by
  unfold zK
  refine ⟨by simp,some ⟨w.heap.size,0,none⟩,l.length,by simp,by simp,by simp,fun _=>⟨w.heap.size,0,rfl,by simp,fun i hi=>?_⟩⟩
  rw [Nat.zero_add,World.cell?_alloc_at _ _ _ _ rfl]
  rw [List.map_replicate,List.getElem?_replicate,Array.getElem?_replicate]
 have CW:=Hd (zDz _ l (List.replicate l.length 0) (.slice la l.length lc) (.slice (some ⟨w.heap.size,0,none⟩) l.length l.length) (hL.below hb0) hrow hs (hM.below hb0))
 have HB0:=Hd hb0
 have HW:=Hd hw
 have HSZ:Hid (w.heap.size≤(w.alloc (.cells (Array.replicate l.length (Value.int .i64 0)) 3)).heap.size):=Hd hb0.size
 clear hL hs hM hb0 hrow hw
 go_enter Tryz.func13,Tryz.ntmps13
 go_wp2_with fail
 refine CW.out.mono ?_
 intro e w2 h2
 unfold kC at h2
 rw [if_neg (by rw [HW.out];decide),if_neg (by simp)] at h2
 obtain ⟨hb2,ov,nv,rfl,ho,hn⟩:=h2
 obtain ⟨oa,on,oc,rfl⟩:=zC ho
 obtain ⟨na,nn,nc,rfl⟩:=zC hn
 have HX:=Hd (HQ.out _ w2 (zB HB0.out hb2) (jT ho HSZ.out))
 clear hb2 ho hn CW
 go_wp2_with fail
 exact HX.out
end Go.Proofs.YtfalelkfhandfaaGreatDoor
namespace Go.Proofs.YtfalelkfhandfaaGreatDoor
set_option linter.all false

theorem zCd {rules:List RuleM} {l:List Prt}:∀ {P:List Pk} {free:Nat} {size:Int},yG rules l P free size=0→∀ p∈P,∃ r,rules[p.1.toNat]?=some r∧0≤p.2.1∧p.2.1<l.length∧mkOf rules l p=(p.2.1.toNat,outP r l p.2.2,kE r l p.2.2-1)∧rightB r l p.2.2=true∧(outP r l p.2.2).length≤131072
 | [],_,_,_,p,hp=>by cases hp
 | (n,x,bs)::P,free,size,h,p,hp=>by
  obtain ⟨h1,h2,h3,r,hr,h4,h5,h6,h7⟩:=gW h
  rcases List.mem_cons.1 hp with rfl | hp
  ·exact ⟨r,hr,by show 0≤x;omega,h3,zBh hr,h4,h5⟩
  ·exact zCd h7 p hp
theorem zHo {rules:List RuleM} {l:List Prt}:∀ {P:List Pk} {free:Nat} {size:Int},yG rules l P free size=0→size+laterS l (kD rules l P)≤131072
 | [],_,size,h=>by
  rw [yG] at h
  show size+laterS l []≤131072
  rw [laterS]
  split at h
  ·cases h
  ·omega
 | (n,x,bs)::P,free,size,h=>by
  obtain ⟨h1,h2,h3,r,hr,h4,h5,h6,h7⟩:=gW h
  have ih:=zHo h7
  have e:kD rules l ((n,x,bs)::P)=(x.toNat,outP r l bs,kE r l bs-1)::kD rules l P:=by
   unfold kD
   rw [List.map_cons,zBh hr]
  rw [e,laterS]
  omega
theorem zCs {rules:List RuleM} {l:List Prt} {P:List Pk} (hw:zZ l=true) (h:yG rules l P ((0:Nat):Int) l.length=0):(stepOut rules l P).length≤131072:=by
 have h1:=zHo h
 have h2:=zGm l (kD rules l P) (zI hw) (kD rules l P) (l.length+1) 0 (fX h) (by omega) (Nat.zero_le _)
 rw [zFo] at h2
 unfold stepOut
 omega
theorem zGa {rules:List RuleM} {l:List Prt} {P:List Pk} (hw:zZ l=true) (hl:SmallL l) (hr:∀ r∈rules,SmallR r) (h:yG rules l P ((0:Nat):Int) l.length=0):SmallL ((stepOut rules l P).map (·.1)):=by
 refine ⟨by rw [List.length_map];have:=zCs hw h;omega,fun q hq=>?_⟩
 obtain ⟨y,hy,rfl⟩:=List.mem_map.1 hq
 unfold stepOut at hy
 rcases fY l _ (zI hw) _ _ _ y hy with ⟨j,hj,rfl⟩ | ⟨p,hp,hy⟩
 ·have e:zT l j=l[j]:=by unfold zT;simp [List.getD_eq_getElem?_getD,hj]
  have:=hl.2 _ (List.getElem_mem hj)
  unfold stayN
  simp only [e]
  exact this
 ·unfold kD at hp
  obtain ⟨x,hx,rfl⟩:=List.mem_map.1 hp
  obtain ⟨r,hr1,_,_,e,_,_⟩:=zCd h x hx
  rw [e] at hy
  have hrm:r∈rules:=by
   obtain ⟨i,hi⟩:=List.getElem?_eq_some_iff.1 hr1
   rw [← hi];exact List.getElem_mem _
  have hm:=(zOf (t:=r.by') (l:=l) (hs:=r.holes) (b:=bOf x.2.2) (hr r hrm).b hl (fuelZ r.by')).1 0
  have hy:y∈outP r l x.2.2:=hy
  unfold outP at hy
  split at hy
  ·exact hm y (List.mem_of_mem_drop hy)
  ·exact hm y hy
theorem zNs (l:List Prt) (A:List Mk) (n:Nat):∀ P:List Mk,outGo l A (n+1) l.length P=[]
 | []=>by rw [outGo,if_neg (by omega)]
 | (x,m,d)::R=>by rw [outGo,if_neg (by omega)]
theorem Free.tail {l:List Prt} {i:Nat} {x:Nat} {m:List PN} {d:Int} {R:List Mk} (h:Free l i ((x,m,d)::R)) (hi:x≠i):Free l (i+1) ((x,m,d)::R):=by
 obtain ⟨h1,h2,h3⟩:=h
 exact ⟨by omega,h2,h3⟩
theorem zJb {rules:List RuleM} {l:List Prt} {P:List Pk} (h:∀ p∈kD rules l P,-1≤p.2.2∧p.2.2≤131072) (hp:P.length≤1048576) (i:Nat):-137438953472≤yL l (kD rules l P) i∧yL l (kD rules l P) i≤137438953472:=by
 have:=zCc l i _ h
 have e:(kD rules l P).length=P.length:=by unfold kD;simp
 rw [e] at this
 omega
end Go.Proofs.YtfalelkfhandfaaGreatDoor
