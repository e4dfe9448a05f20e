/- Layer 20: what the maker holds in memory. -/
import Derived.Test.YtmklemelgdilkaaGreatDoorPackMk
import Derived.Test.YtmklemelgdilkaaGreatDoorInstWMk
import Derived.Test.YtmklemelgdilkaaGreatDoorInstPMk
import Derived.Test.YtmklemelgdilkaaGreatDoorTreesFMk
import Derived.Test.YtmklemelgdilkaaGreatDoorUntilMk
namespace Go.Proofs.YtmklemelgdilkaaGreatDoor
set_option linter.all false
open Go Go.RowKit

structure MkE where
 r:RuleM
 l:List Prt
 bs:List Bnd
 g:Nat
 B:Nat
 T:TypeId
 vh:Value
 vf:Value
 vy:Value
 vl:Value
 ve:Value
 vb:Value
def mkB (E:MkE) (ov fv:Value) (lg:Bool) (W:World):Prop:=W.heap[E.g]?=some (.cells #[.string E.r.nm,.int .u8 (E.r.goal:Int),E.vh,E.vf,E.vy,E.vl,E.ve,E.vb,ov,fv,.bool lg] E.T (0,0))
theorem mkB.cells {E:MkE} {ov fv:Value} {lg:Bool} {W:World} (h:mkB E ov fv lg W):W.cell? ⟨E.g,0,none⟩=some (.string E.r.nm)∧W.cell? ⟨E.g,1,none⟩=some (.int .u8 (E.r.goal:Int))∧W.cell? ⟨E.g,2,none⟩=some E.vh∧W.cell? ⟨E.g,3,none⟩=some E.vf∧W.cell? ⟨E.g,4,none⟩=some E.vy∧W.cell? ⟨E.g,5,none⟩=some E.vl∧W.cell? ⟨E.g,6,none⟩=some E.ve∧W.cell? ⟨E.g,7,none⟩=some E.vb∧W.cell? ⟨E.g,8,none⟩=some ov∧W.cell? ⟨E.g,9,none⟩=some fv∧W.cell? ⟨E.g,10,none⟩=some (.bool lg)∧∀ j,W.frozen? ⟨E.g,j,none⟩=false:=by
 unfold mkB at h
 simp [World.cell?,World.frozen?,h]
structure MkIn (w0:World) (E:MkE) (out:List PN) (lg:Bool) (ov fv:Value) (W:World):Prop where
 b:Below w0.heap.size w0 W
 s:mkB E ov fv lg W
 o:W.ownsRow E.B 45 3 ov out.length (partsV (out.map (·.1)))
 f:W.ownsRow E.B 3 1 fv out.length (intsV (out.map (·.2)))
 g0:w0.heap.size≤E.g
 gB:E.g<E.B
 B:E.B≤W.heap.size
theorem MkIn.below {w0 W W':World} {E:MkE} {out:List PN} {lg:Bool} {ov fv:Value} (h:MkIn w0 E out lg ov fv W) (hb:Below W.heap.size W W'):MkIn w0 E out lg ov fv W' :=
 ⟨bthen h.b hb,keeps hb h.s,owns_below h.o hb,owns_below h.f hb,h.g0,h.gB,by have:=h.B;have:=hb.size;omega⟩
theorem mkB.set {E:MkE} {ov fv:Value} {lg:Bool} {W:World} (h:mkB E ov fv lg W):(∀ v,mkB E v fv lg (W.setCell ⟨E.g,8,none⟩ v))∧(∀ v,mkB E ov v lg (W.setCell ⟨E.g,9,none⟩ v))∧(∀ b,mkB E ov fv b (W.setCell ⟨E.g,10,none⟩ (.bool b))):=by
 unfold mkB at *
 refine ⟨fun v=>?_,fun v=>?_,fun b=>?_⟩
 ·exact heap_setCell_same W E.g 8 _ _ v h
 ·exact heap_setCell_same W E.g 9 _ _ v h
 ·exact heap_setCell_same W E.g 10 _ _ (.bool b) h
theorem owns_setG {W:World} {B g:Nat} {e:TypeId} {size n:Nat} {v:Value} {xs:List Value} (h:W.ownsRow B e size v n xs) (hg:g<B) (j:Nat) (u:Value):(W.setCell ⟨g,j,none⟩ u).ownsRow B e size v n xs :=
 ownsRow_setCell_other h (a:=⟨g,j,none⟩) (fun e=>by have:=(h.lt g e).1;omega) u
theorem MkIn.long {w0 W:World} {E:MkE} {out:List PN} {lg:Bool} {ov fv:Value} (h:MkIn w0 E out lg ov fv W) (b:Bool):MkIn w0 E out b ov fv (W.setCell ⟨E.g,10,none⟩ (.bool b))∧KpM E.B E.g W (W.setCell ⟨E.g,10,none⟩ (.bool b)) :=
 ⟨⟨h.b.setCell (p:=⟨E.g,10,none⟩) h.g0 _,h.s.set.2.2 b,owns_setG h.o h.gB _ _,owns_setG h.f h.gB _ _,h.g0,h.gB,by simpa using h.B⟩,(KpM.refl _ _ _).setG _ _⟩
theorem MkIn.app {w0 W:World} {E:MkE} {out:List PN} {lg:Bool} {ov fv:Value} (h:MkIn w0 E out lg ov fv W) (x:PN) (C1 C2:Array Value) (hC1:C1=#[.int .u8 (x.1.1:Int),.int .i64 x.1.2.1,.string x.1.2.2]) (hC2:C2=#[.int .i64 x.2]) (hn:out.length≤1000000) :
  ∃ v1 w1 v2 w2,(Builtin.append_ #[23,23] 23 #[ov,.slice (some ⟨W.heap.size,0,none⟩) 1 1]).run Tryz.prog (W.alloc (.cells C1 45))=.ok v1 w1 ∧
   (Builtin.append_ #[27,27] 27 #[fv,.slice (some ⟨w1.heap.size,0,none⟩) 1 1]).run Tryz.prog (w1.alloc (.cells C2 3))=.ok v2 w2 ∧
   MkIn w0 E (out++[x]) lg v1 v2 ((w2.setCell ⟨E.g,8,none⟩ v1).setCell ⟨E.g,9,none⟩ v2)∧KpM E.B E.g W ((w2.setCell ⟨E.g,8,none⟩ v1).setCell ⟨E.g,9,none⟩ v2)∧mkB E ov fv lg w2∧mkB E v1 fv lg (w2.setCell ⟨E.g,8,none⟩ v1):=by
 subst hC1 hC2
 have hBs:=h.B
 obtain ⟨v1,w1,r1,o1,g1,_⟩:=append_lit_eq (P:=Tryz.prog) W #[.int .u8 (x.1.1:Int),.int .i64 x.1.2.1,.string x.1.2.2] 45 23 23 45 Tryz.underlying23 E.B Tinfo_part rfl (by decide) ov out.length _ h.o 1 1 rfl (Nat.le_refl _) (by intro u hu;simp at hu;rcases hu with rfl | rfl | rfl <;> rfl) (by omega) (by omega) hBs
 have k0:=(KpM.refl E.B E.g W).alloc hBs (.cells #[.int .u8 (x.1.1:Int),.int .i64 x.1.2.1,.string x.1.2.2] 45)
 have oa:=h.o.alloc (.cells #[.int .u8 (x.1.1:Int),.int .i64 x.1.2.1,.string x.1.2.2] 45)
 have hBa:E.B≤(W.alloc (.cells #[.int .u8 (x.1.1:Int),.int .i64 x.1.2.1,.string x.1.2.2] 45)).heap.size:=by simp;omega
 have k1:=k0.grown oa hBa g1
 have f1:=row_other oa g1 (h.f.alloc (.cells #[.int .u8 (x.1.1:Int),.int .i64 x.1.2.1,.string x.1.2.2] 45)) (by decide)
 have hB1:E.B≤w1.heap.size:=by have:=k1.size;omega
 obtain ⟨v2,w2,r2,f2,g2,_⟩:=append_lit_eq (P:=Tryz.prog) w1 #[.int .i64 x.2] 3 27 27 3 Tryz.underlying27 E.B Tinfo_int rfl (by decide) fv out.length _ f1 1 1 rfl (Nat.le_refl _) (by intro u hu;simp at hu;subst hu;rfl) (by omega) (by omega) hB1
 have k2a:=k1.alloc hB1 (.cells #[.int .i64 x.2] 3)
 have hB1a:E.B≤(w1.alloc (.cells #[.int .i64 x.2] 3)).heap.size:=by simp;omega
 have fa:=f1.alloc (.cells #[.int .i64 x.2] 3)
 have k2:=k2a.grown fa hB1a g2
 have o2:=row_other fa g2 (o1.alloc (.cells #[.int .i64 x.2] 3)) (by decide)
 have hB2:E.B≤w2.heap.size:=by have:=k2.size;omega
 have hgl:=keeps_lt h.s
 have s2:mkB E ov fv lg w2:=by
  unfold mkB
  have e1:w1.heap[E.g]?=W.heap[E.g]?:=by
   rw [g1.block E.g (by simp;omega) (fun e=>by have:=(oa.lt E.g e.symm).1;have:=h.gB;omega),Below.heap_alloc _ _ _ hgl]
  have hl1:E.g<w1.heap.size:=by have:=h.gB;omega
  rw [g2.block E.g (by simp;omega) (fun e=>by have:=(fa.lt E.g e.symm).1;have:=h.gB;omega),Below.heap_alloc _ _ _ hl1,e1]
  exact h.s
 have s3:=s2.set.1 v1
 have s4:=s3.set.2.1 v2
 have hb2:Below w0.heap.size w0 w2:=k2.below h.b (by have:=h.g0;have:=h.gB;omega) h.g0
 refine ⟨v1,w1,v2,w2,r1,r2,⟨(hb2.setCell (p:=⟨E.g,8,none⟩) h.g0 _).setCell (p:=⟨E.g,9,none⟩) h.g0 _,s4,?_,?_,h.g0,h.gB,by simpa using hB2⟩,(k2.setG 8 v1).setG 9 v2,s2,s3⟩
 ·rw [List.length_append,List.map_append,partsV_append]
  exact owns_setG (owns_setG o2 h.gB _ _) h.gB _ _
 ·rw [List.length_append,List.map_append,intsV_app]
  exact owns_setG (owns_setG f2 h.gB _ _) h.gB _ _
end Go.Proofs.YtmklemelgdilkaaGreatDoor
namespace Go.Proofs.YtmklemelgdilkaaGreatDoor
set_option linter.all false

theorem made_one {r:RuleM} {l:List Prt} {bs:List Bnd} (hr:ruleZ r=0) (hg:r.goal≠3) (hb:rightB r l bs=true) (hv:∀ h,∃ ts,rowsB (piece l (bOf bs h).1 (bOf bs h).2)=some ts):treesP r l bs=1:=by
 have H:=(rule_holes hr).2.1
 have h0:=(well_zero H.well).1
 have hin:=bOf_in (right_in hb)
 have e1:outP r l bs=madeP r l bs:=by unfold outP;rw [if_neg hg]
 unfold treesP
 rw [e1]
 cases ho:holeOf r.by' r.holes 0 with
 | none =>
  obtain ⟨ts,h1,h2⟩:=(i_rows r.by' r.holes (fun h=>piece l (bOf bs h).1 (bOf bs h).2) hv (fuelZ r.by')).1 0
  have h3:=(m_inst r.by' l r.holes (bOf bs) hin (fuelZ r.by')).1 0
  have h4:rowsB ((madeP r l bs).map (·.1))=some ts:=by rw [← h1];exact congrArg rowsB h3
  rw [treesZ_of h4,h2 ho h0 (by unfold fuelZ;omega)];rfl
 | some h =>
  obtain ⟨hh,hs⟩:=holeOf_inv ho
  have u0:upN r.by' 0=-1:=rfl
  have k0:kindI r.by' (-1)=none:=by unfold kindI;rw [if_pos (by omega)]
  have hsv:isSev (r.holes[h]).2=false:=by
   cases e:isSev (r.holes[h]).2 with
   | false=>rfl
   | true =>
    exfalso
    unfold isSev at e
    simp at e
    rcases stands_inv hs with ⟨a1,a2,a3,a4,a5⟩ | ⟨a1,a2,a5⟩
    ·have h7:(r.holes[h]).2=7:=by unfold isStmt at a1;simp at a1;omega
     have:=H.plc h hh 1 a3 a5
     unfold placeOK at this
     rw [h7,if_neg (by decide),if_pos rfl] at this
     have u1:(upN r.by' 1).toNat=0:=by
      unfold upN upI
      split <;> simp [upI]
     rw [u1,u0,k0] at this
     simp at this
    ·have h6:(r.holes[h]).2=6:=by unfold isStmt at a1;simp at a1;omega
     have:=H.plc h hh 0 a2 a5
     unfold placeOK at this
     rw [h6,if_neg (by decide),if_neg (by decide),if_pos rfl,u0,k0] at this
     simp at this
  have hbl:=(rightB_iff.1 hb).1
  have hhb:h<bs.length:=by omega
  obtain ⟨_,hrg,_,h1⟩:=okB_inv ((rightB_iff.1 hb).2 h hh hhb)
  have h2:=(h1 hsv).1
  have e2:madeP r l bs=srcL l (bOf bs h).1 (bOf bs h).2:=mp_hole ho
  rw [e2,srcL_fst l (hin h).1 (hin h).2,bOf_at hhb]
  exact h2
theorem right_rows {r:RuleM} {l:List Prt} {bs:List Bnd} (hb:rightB r l bs=true) (h:Nat):∃ ts,rowsB (piece l (bOf bs h).1 (bOf bs h).2)=some ts:=by
 by_cases hh:h<bs.length
 ·have hbl:=(rightB_iff.1 hb).1
  obtain ⟨_,_,h1,_⟩:=okB_inv ((rightB_iff.1 hb).2 h (by omega) hh)
  rw [bOf_at hh]
  unfold treesZ at h1
  cases e:rowsB (piece l (bs[h]).2.1.toNat (bs[h]).2.2.toNat) with
  | some ts=>exact ⟨ts,rfl⟩
  | none=>rw [e] at h1;simp at h1
 ·unfold bOf
  rw [List.getElem?_eq_none (by omega)]
  exact ⟨[],by unfold piece;simp;rfl⟩
theorem mPart_one {t l:List Prt} {hs:List Hl} {b:Nat→Nat×Nat} (hb:∀ h,(b h).1≤(b h).2∧(b h).2≤l.length) (hv:∀ h,∃ ts,rowsB (piece l (b h).1 (b h).2)=some ts) {n p:Nat} (ho:holeOf t hs p=none) (hp:p<t.length):cntP ((mPart t l hs b (n+1) p).map (·.1))=1:=by
 obtain ⟨ts,h1,h2⟩:=(i_rows t hs (fun h=>piece l (b h).1 (b h).2) hv (n+1)).1 p
 rw [(m_inst t l hs b hb (n+1)).1 p,cntP_of h1,h2 ho hp (by omega)]
theorem trees_cnt {l:List Prt} {ts:List Nat} (h:rowsB l=some ts):treesZ l=(cntP l:Int):=by rw [treesZ_of h,cntP_of h]
theorem srcL_snoc (l:List Prt) {x i:Nat} (h:x≤i):srcL l x (i+1)=srcL l x i++[(ptAt l i,(i:Int))]:=by
 unfold srcL
 rw [show i+1-x=(i-x)+1 by omega,List.range'_1_concat,List.map_append,show x+(i-x)=i by omega];rfl
theorem srcL_add (l:List Prt) {a b c:Nat} (h1:a≤b) (h2:b≤c):srcL l a c=srcL l a b++srcL l b c:=by
 unfold srcL
 rw [← List.map_append,show c-a=(b-a)+(c-b) by omega]
 congr 1
 have:=List.range'_append (s:=a) (m:=b-a) (n:=c-b) (step:=1)
 rw [Nat.one_mul,show a+(b-a)=b by omega] at this
 exact this.symm
def mkGo (out:List PN) (lg:Bool) (M:List PN) (out':List PN) (lg':Bool):Prop:=(lg=false∧out.length+M.length≤131073→lg'=false∧out'=out++M)∧(¬ (lg=false∧out.length+M.length≤131073)→lg'=true)
theorem mkGo.nil (out:List PN) (lg:Bool) (h:out.length≤131073):mkGo out lg [] out lg:=by
 refine ⟨fun h1=>⟨h1.1,by simp⟩,fun h1=>?_⟩
 cases lg with
 | true=>rfl
 | false=>exact absurd ⟨rfl,by simpa using h⟩ h1
theorem mkGo.app {out o1 o2 A B:List PN} {lg l1 l2:Bool} (h:mkGo out lg A o1 l1) (k:mkGo o1 l1 B o2 l2):mkGo out lg (A++B) o2 l2:=by
 constructor
 ·rintro ⟨h1,h2⟩
  rw [List.length_append] at h2
  obtain ⟨e1,e2⟩:=h.1 ⟨h1,by omega⟩
  subst e2
  obtain ⟨e3,e4⟩:=k.1 ⟨e1,by rw [List.length_append];omega⟩
  exact ⟨e3,by rw [e4,List.append_assoc]⟩
 ·intro hn
  rw [List.length_append] at hn
  by_cases c:lg=false∧out.length+A.length≤131073
  ·obtain ⟨e1,e2⟩:=h.1 c
   refine k.2 fun hc=>hn ⟨c.1,?_⟩
   have:=hc.2
   rw [e2,List.length_append] at this
   omega
  ·have:=h.2 c
   exact k.2 fun hc=>by rw [this] at hc;cases hc.1
theorem mkGo.long {out o1 A B:List PN} {lg:Bool} (h:mkGo out lg A o1 true):mkGo out lg (A++B) o1 true:=by
 refine ⟨fun hc=>?_,fun _=>rfl⟩
 rw [List.length_append] at hc
 have:=(h.1 ⟨hc.1,by omega⟩).1
 cases this
theorem mkGo.same {out o1 A B:List PN} {lg:Bool} (h:mkGo out lg A o1 true) (hl:B.length=A.length):mkGo out lg B o1 true:=by
 refine ⟨fun hc=>?_,fun _=>rfl⟩
 have:=(h.1 ⟨hc.1,by omega⟩).1
 cases this
end Go.Proofs.YtmklemelgdilkaaGreatDoor
namespace Go.Proofs.YtmklemelgdilkaaGreatDoor
set_option linter.all false
open Go.RowKit

structure TwoR (B:Nat) (w0:World) (A:List Prt) (F:List Int) (ov nv:Value) (W:World):Prop where
 o:W.ownsRow B 45 3 ov A.length (partsV A)
 n:W.ownsRow B 3 1 nv F.length (intsV F)
 b:Below B w0 W
 B:B≤W.heap.size
section
variable {B:Nat} {w0 W:World} {A:List Prt} {F:List Int} {ov nv:Value}
theorem TwoR.below {W':World} (h:TwoR B w0 A F ov nv W) (hb:Below W.heap.size W W'):TwoR B w0 A F ov nv W' :=
 ⟨owns_below h.o hb,owns_below h.n hb,h.b.trans (hb.mono h.B),Nat.le_trans h.B hb.size⟩
theorem TwoR.start (hb:Below B w0 W) (hB:B≤W.heap.size):TwoR B w0 [] [] (.slice none 0 0) (.slice none 0 0) W :=
 ⟨World.ownsRow_nil _ _ _ _,World.ownsRow_nil _ _ _ _,hb,hB⟩
theorem TwoR.moreO (h:TwoR B w0 A F ov nv W) {src:Value} {us:List Prt} (hx:PartRow W src us) (hl:A.length≤10000000) (hm:us.length≤10000000) :
  ∃ v' w',(Builtin.append_ #[23,23] 23 #[ov,src]).run Tryz.prog W=.ok v' w'∧TwoR B w0 (A++us) F v' nv w':=by
 obtain ⟨v',w',h1,h2,h3,_⟩:=append_eq (P:=Tryz.prog) W 23 23 45 Tryz.underlying23 B Tinfo_part rfl (by decide) ov A.length (partsV A) h.o src us.length (partsV us) hx (partsV_one us) (by omega) (by omega) h.B
 have hb':=grown_keeps h.b h.B h.o h3
 exact ⟨v',w',h1,by rw [partsV_append,List.length_append];exact h2,row_other h.o h3 h.n (by decide),hb',Nat.le_trans h.B h3.size⟩
theorem TwoR.moreN (h:TwoR B w0 A F ov nv W) {src:Value} {us:List Int} (hx:RowInts W src .i64 us) (hl:F.length≤10000000) (hm:us.length≤10000000) :
  ∃ v' w',(Builtin.append_ #[27,27] 27 #[nv,src]).run Tryz.prog W=.ok v' w'∧TwoR B w0 A (F++us) ov v' w':=by
 obtain ⟨v',w',h1,h2,h3,_⟩:=append_eq (P:=Tryz.prog) W 27 27 3 Tryz.underlying27 B Tinfo_int rfl (by decide) nv F.length (intsV F) h.n src us.length (intsV us) hx (intsV_one us) (by omega) (by omega) h.B
 have hb':=grown_keeps h.b h.B h.n h3
 exact ⟨v',w',h1,row_other h.n h3 h.o (by decide),by rw [intsV_app,List.length_append];exact h2,hb',Nat.le_trans h.B h3.size⟩
theorem TwoR.oRow (h:TwoR B w0 A F ov nv W):PartRow W ov A:=Row.of_owns h.o
theorem TwoR.nRow (h:TwoR B w0 A F ov nv W):RowInts W nv .i64 F:=RowInts.of_owns h.n
end
end Go.Proofs.YtmklemelgdilkaaGreatDoor
namespace Go.Proofs.YtmklemelgdilkaaGreatDoor
set_option linter.all false
attribute [local irreducible] Calls
open Go.RowKit

theorem cp_all (w0:World) (E:CpE) (F:CpF w0 E):∀ n,(∀ m,m≤n→PutC w0 E m)∧(∀ m,m≤n→EachC w0 E m)
 | 0=>by
  constructor
  ·intro m hm
   obtain rfl:m=0:=by omega
   unfold PutC
   intro W out ns i ov nv hc hi h
   have:=(endB_gt (well_rows F.w) hi).1
   omega
  ·intro m hm
   obtain rfl:m=0:=by omega
   unfold EachC
   intro W out ns i ov nv hc hi h
   omega
 | n+1=>by
  obtain ⟨h1,h2⟩:=cp_all w0 E F n
  constructor
  ·intro m hm
   by_cases e:m≤n
   ·exact h1 m e
   ·obtain rfl:m=n+1:=by omega
    unfold PutC
    intro W out ns i ov nv hc hi hf hl hn
    exact cp_put w0 E F n (h2 n (Nat.le_refl n)) W out ns i ov nv hc hi hf hl hn
  ·intro m hm
   by_cases e:m≤n
   ·exact h2 m e
   ·obtain rfl:m=n+1:=by omega
    unfold EachC
    intro W out ns i ov nv hc hi hf hl hn
    exact cp_each w0 E F (n+1) (fun m hm=>h1 m (by omega)) W out ns i ov nv hc hi hf hl hn
theorem gOne_le (l:List Prt) (fr:List Int) (j:Nat):(gOne l fr j).length≤2:=by
 unfold gOne
 split <;> simp
theorem gSeg_le (l:List Prt) (fr:List Int):∀ n a,((List.range' a n).flatMap (gOne l fr)).length≤2*n
 | 0,a=>by simp
 | n+1,a=>by
  have h1:=gSeg_le l fr n (a+1)
  have h2:=gOne_le l fr a
  rw [List.range'_succ,List.flatMap_cons,List.length_append]
  omega
theorem guardZ_le (l:List Prt) (fr:List Int):(guardZ l fr).length≤2*l.length:=by
 unfold guardZ gSeg
 have:=gSeg_le l fr (l.length-0) 0
 omega
theorem cp_guard (w0:World) (E:CpE) (F:CpF w0 E) (W:World) (ov nv:Value) (hi:CpIn w0 E [] [] 0 ov nv W) :
  Calls Tryz.prog 41 #[.pointer (some ⟨E.g,0,none⟩)] W (cpPost w0 E [] [] ov nv (guardZ E.l E.fr) E.l.length W):=by
 have h0:=well_zero F.w
 have h:=(cp_all w0 E F (2*E.l.length)).1 _ (Nat.le_refl _)
 unfold PutC at h
 have h1:=guardZ_le E.l E.fr
 have h2:=F.s.1
 have:=h W [] [] 0 ov nv hi h0.1 (by rw [h0.2];omega) (by rw [guard_part E.l E.fr F.w];simp;omega) rfl
 rw [guard_part E.l E.fr F.w,h0.2] at this
 exact this
end Go.Proofs.YtmklemelgdilkaaGreatDoor
namespace Go.Proofs.YtmklemelgdilkaaGreatDoor
set_option linter.all false
attribute [local irreducible] Calls
attribute [local irreducible] wpStill
open Go.RowKit

theorem owns_lower {W:World} {B B':Nat} {e:TypeId} {size n:Nat} {v:Value} {xs:List Value} (h:W.ownsRow B e size v n xs) (hB:B'≤B):W.ownsRow B' e size v n xs:=by
 obtain ⟨h1,h2⟩:=h
 refine ⟨h1,?_⟩
 rcases h2 with h2 | ⟨g,cap,cur,a1,a2,a3⟩
 ·exact Or.inl h2
 ·exact Or.inr ⟨g,cap,cur,a1,Nat.le_trans hB a2,a3⟩
@[irreducible] def withPost (w:World) (l:List Prt) (fr:List Int) (e:Ending) (w':World):Prop :=
 Below w.heap.size w w' ∧
  if wellB l=false then e=.returned (.tuple #[.slice none 0 0,.slice none 0 0,.int .i64 8])
  else if fr.length≠l.length then e=.returned (.tuple #[.slice none 0 0,.slice none 0 0,.int .i64 1])
  else ∃ ov nv,e=.returned (.tuple #[ov,nv,.int .i64 0])∧w'.ownsRow w.heap.size 45 3 ov (guardZ l fr).length (partsV ((guardZ l fr).map (·.1)))∧w'.ownsRow w.heap.size 3 1 nv (guardZ l fr).length (intsV ((guardZ l fr).map (·.2)))
set_option maxRecDepth 100000 in
set_option maxHeartbeats 16000000 in
theorem guard_With (w:World) (l:List Prt) (fr:List Int) (vl vf:Value) (hL:PartRow w vl l) (hF:RowInts w vf .i64 fr) (hs:SmallL l) (hM:MaxC w) :
  Calls Tryz.prog 21 #[vl,vf] w (withPost w l fr):=by
 have CW:=Hd (term_Well l (by have:=hs.1;omega) vl w hL)
 obtain ⟨la,lc,hvl,hlc⟩:=hL.slice
 obtain ⟨fa,fc,hvf,hfc,_⟩:=hF.open'
 have HNO:RowKit.Hid (wellB l=false→∀ w',Below w.heap.size w w'→withPost w l fr (.returned (.tuple #[.slice none 0 0,.slice none 0 0,.int .i64 8])) w'):=Hd fun h w' hb=>by
  unfold withPost;rw [if_pos h];exact ⟨hb,rfl⟩
 have HN2:RowKit.Hid (wellB l=true→fr.length≠l.length→∀ w',Below w.heap.size w w'→withPost w l fr (.returned (.tuple #[.slice none 0 0,.slice none 0 0,.int .i64 1])) w'):=Hd fun h h2 w' hb=>by
  unfold withPost;rw [if_neg (by rw [h];decide),if_pos h2];exact ⟨hb,rfl⟩
 have HYES:RowKit.Hid (wellB l=true→fr.length=l.length→∀ w' ov nv,Below w.heap.size w w'→w'.ownsRow w.heap.size 45 3 ov (guardZ l fr).length (partsV ((guardZ l fr).map (·.1)))→w'.ownsRow w.heap.size 3 1 nv (guardZ l fr).length (intsV ((guardZ l fr).map (·.2)))→withPost w l fr (.returned (.tuple #[ov,nv,.int .i64 0])) w'):=Hd fun h h2 w' ov nv hb ho hn=>by
  unfold withPost;rw [if_neg (by rw [h];decide),if_neg (by simp [h2])];exact ⟨hb,ov,nv,rfl,ho,hn⟩
 generalize withPost w l fr=Q at *
 subst hvl;subst hvf
 have HL:=Hd hL;have HF:=Hd hF;have HS:=Hd hs;have HM:=Hd hM
 clear hL hF hs hM
 go_enter Tryz.func21,Tryz.ntmps21
 go_wp2_with fail
 refine CW.out.mono ?_
 rintro e w1 ⟨rfl,hb1⟩
 cases hw:wellB l with
 | false =>
  have HZ:=Hd (HNO.out hw w1 hb1)
  go_wp2_with fail
  exact HZ.out
 | true =>
  by_cases hn:fr.length=l.length
  ·have hn1:(fr.length:Int)=(l.length:Int):=by omega
   go_upto_region 5 with (fail)
   go_upto_region 6 with (fail)
   have hFl:RowInts w (.slice fa l.length fc) .i64 fr:=by have h:=HF.out;rwa [hn] at h
   obtain ⟨E,hE⟩:∃ E:CpE,E=⟨l,fr,w1.heap.size,w1.heap.size+1,76,.slice la l.length lc,.slice fa l.length fc⟩:=⟨_,rfl⟩
   have HCF:CpF w1 E:=by subst hE;exact ⟨HL.out.below hb1,hFl.below hb1,hw,hn,HS.out,HM.out.below hb1⟩
   have HCI:CpIn w1 E [] [] 0 (.slice none 0 0) (.slice none 0 0) (w1.alloc (.cells #[.slice la l.length lc,.slice fa l.length fc,.slice none 0 0,.slice none 0 0,.int .i64 0] 76)):=by
    subst hE
    exact ⟨(Below.refl _ _).alloc (Nat.le_refl _) _,heap_alloc_new _ _,World.ownsRow_nil _ _ _ _,World.ownsRow_nil _ _ _ _,Nat.le_refl _,Nat.lt_succ_self _,by simp⟩
   have CG:=Hd (cp_guard w1 E HCF _ _ _ HCI)
   have HG:RowKit.Hid (E.g=w1.heap.size∧E.l=l∧E.fr=fr∧E.B=w1.heap.size+1):=Hd (by subst hE;exact ⟨rfl,rfl,rfl,rfl⟩)
   rw [HG.out.1,HG.out.2.1,HG.out.2.2.1] at CG
   clear HCF HCI hE hFl
   go_wp2_with fail
   refine CG.out.mono ?_
   intro e w3 hp
   unfold cpPost at hp
   obtain ⟨ov,nv,v,rfl,hc,hk⟩:=hp
   have hB3:Below w.heap.size w w3:=bthen hb1 hc.b
   have hgB:=HG.out.1
   have HSC:RowKit.Hid (∀ W',Below w3.heap.size w3 W'→W'.cell? ⟨w1.heap.size,2,none⟩=some ov∧W'.cell? ⟨w1.heap.size,3,none⟩=some nv):=Hd fun W' hb=>by
    have h:=(hc.below hb).s.cells
    rw [hgB] at h
    exact ⟨h.2.2.1,h.2.2.2.1⟩
   have HZ:RowKit.Hid (Q (.returned (.tuple #[ov,nv,.int .i64 0])) w3.drew):=Hd (by
    have h:=hc.below (Below.refl _ _).drew
    refine HYES.out hw hn w3.drew ov nv (bthen hB3 (Below.refl _ _).drew) ?_ ?_
    ·have:=owns_lower h.o (show w.heap.size≤E.B by have:=HG.out.2.2.2;have:=hb1.size;omega)
     simpa using this
    ·have:=owns_lower h.f (show w.heap.size≤E.B by have:=HG.out.2.2.2;have:=hb1.size;omega)
     simpa using this)
   clear hc hk hB3 hgB CG
   go_upto_region 7 with (fail)
   go_region_held3 (fun W'=>W'.cell? ⟨w1.heap.size,2,none⟩=some ov∧W'.cell? ⟨w1.heap.size,3,none⟩=some nv) (exact HSC.out _ (Below.refl _ _).drew) (fail)
   go_wp2_with fail
   exact HZ.out
  ·have hn1:¬ (fr.length:Int)=(l.length:Int):=by omega
   have HZ:=Hd (HN2.out hw hn w1 hb1)
   go_wp2_with fail
   exact HZ.out
end Go.Proofs.YtmklemelgdilkaaGreatDoor
