/- Layer 17, the reference: At's memory: the numbers, a way that is laid out. -/
import Derived.Test.YtlkheofphafofaaGreatDoorRefPartBMc
import Derived.Test.YtlkheofphafofaaGreatDoorMapSMc
import Derived.Test.YtlkheofphafofaaGreatDoorSeekPMc
import Derived.Test.YtlkheofphafofaaGreatDoorEachSMc
import Derived.Test.YtlkheofphafofaaGreatDoorAtMc
import Derived.Test.YtlkheofphafofaaGreatDoorAtSMc
namespace Go.Proofs.YtlkheofphafofaaGreatDoor
set_option linter.all false
open Go.RowKit

theorem wy_part (E:WyE) (ok:WyOK E) (n:Nat):WPartC E n:=by
 induction n using Nat.strongRecOn with
 | ind n ih =>
  intro w σ p i hi hp hil hfu
  have hg:=(endB_gt (well_rows ok.hf.well) hp).1
  obtain ⟨m,rfl⟩:∃ m,n=m+1:=⟨n-1,by omega⟩
  rcases hole_parts E.k.f E.k.hs p with ⟨h,h1,h2,h3⟩ | ⟨h,h1,h2,h3⟩ | ⟨h1,h2,h3⟩
  ·exact wy_part_one E ok m w σ p i hi hp hil h h1
  ·exact wy_part_sev E ok m ih w σ p i hi hp hil hfu h h1
  ·exact wy_part_none E ok m ih w σ p i hi hp hil hfu h2
def LensB (w:World) (gl:Nat) (ns:List Nat):Prop:=w.heap[gl]?=some (.cells (natV ns).toArray 3 (0,0))
theorem LensB.row {w:World} {gl:Nat} {ns:List Nat} (h:LensB w gl ns) (hn:ns.length≤1048576):RowInts w (.slice (some ⟨gl,0,none⟩) ns.length ns.length) .i64 (natI ns):=by
 refine nat_row (B:=0) ⟨by rw [natV_length];simp,Or.inr ⟨gl,ns.length,_,rfl,Nat.zero_le _,h,Nat.le_refl _,by unfold maxLen;omega,by simp [natV],by rw [List.take_of_length_le (by simp [natV])]⟩⟩
theorem LensB.cell {w:World} {gl:Nat} {ns:List Nat} (h:LensB w gl ns) {i:Nat} (hi:i<ns.length):w.cell? ⟨gl,i,none⟩=some (.int .i64 ((ns[i]:Nat):Int))∧w.frozen? ⟨gl,i,none⟩=false:=by
 unfold LensB at h
 refine ⟨?_,by simp [World.frozen?,h]⟩
 simp only [World.cell?,h,Option.bind_some]
 simp [natV,hi]
theorem LensB.set {w:World} {gl:Nat} {ns:List Nat} (h:LensB w gl ns) (i v:Nat):LensB (w.setCell ⟨gl,i,none⟩ (.int .i64 (v:Int))) gl (ns.set i v):=by
 have h1:=heap_setCell_same w gl i _ _ (.int .i64 (v:Int)) h
 unfold LensB
 rw [h1]
 congr 2
 apply Array.ext'
 rw [Array.toList_setIfInBounds]
 unfold natV
 rw [List.map_set]
theorem LensB.below {w w':World} {gl B:Nat} {ns:List Nat} (h:LensB w gl ns) (hb:Below B w w') (hB:gl<B):LensB w' gl ns:=by
 unfold LensB at *
 rw [hb.block gl hB];exact h
def cellNat (w:World) (gl h:Nat):Nat:=match w.cell? ⟨gl,h,none⟩ with
 | some (.int _ z)=>z.toNat
 | _=>0
theorem LensB.nat {w:World} {gl:Nat} {ns:List Nat} (h:LensB w gl ns) {i:Nat} (hi:i<ns.length):cellNat w gl i=ns[i]:=by
 unfold cellNat
 rw [(h.cell hi).1]
 simp
structure RaW (g B1:Nat) (r:RuleM) (vh vf vby vl vn vz:Value) (hb:List Hl) (vb:Value) (w1 w:World):Prop where
 s:w.heap[g]?=some (.cells #[.string r.nm,.int .u8 (r.goal:Int),vh,vf,vby,vl,vn,vb,vz] 78 (0,0))
 z:w.ownsRow B1 4 1 vz r.holes.length (boundV (startS r.holes))
 b:w.ownsRow (g+1) 41 3 vb hb.length (bindsV (hb.map bind0))
 below:Below B1 w1 w
 lt:B1≤g∧g<w.heap.size
 zb:∀ q,vz.ownBlock=some q→q<g
theorem RaW.alloc {g B1:Nat} {r:RuleM} {vh vf vby vl vn vz:Value} {hb:List Hl} {vb:Value} {w1 w:World} (h:RaW g B1 r vh vf vby vl vn vz hb vb w1 w) (o:Obj):RaW g B1 r vh vf vby vl vn vz hb vb w1 (w.alloc o):=by
 have hl:=h.lt
 exact ⟨by rw [Below.heap_alloc _ _ _ hl.2];exact h.s,h.z.alloc _,h.b.alloc _,h.below.alloc (by omega) _,⟨hl.1,by simp;omega⟩,h.zb⟩
theorem RaW.drew {g B1:Nat} {r:RuleM} {vh vf vby vl vn vz:Value} {hb:List Hl} {vb:Value} {w1 w:World} (h:RaW g B1 r vh vf vby vl vn vz hb vb w1 w):RaW g B1 r vh vf vby vl vn vz hb vb w1 w.drew:=⟨h.s,h.z,h.b,h.below.drew,h.lt,h.zb⟩
theorem RaW.cells {g B1:Nat} {r:RuleM} {vh vf vby vl vn vz:Value} {hb:List Hl} {vb:Value} {w1 w:World} (h:RaW g B1 r vh vf vby vl vn vz hb vb w1 w):w.cell? ⟨g,7,none⟩=some vb∧∀ j,w.frozen? ⟨g,j,none⟩=false:=by
 simp only [World.cell?,World.frozen?,h.s]
 exact ⟨rfl,fun j=>by simp⟩
theorem RaW.bcells {g B1:Nat} {r:RuleM} {vh vf vby vl vn vz:Value} {hb:List Hl} {vb:Value} {w1 w w':World} (h:RaW g B1 r vh vf vby vl vn vz hb vb w1 w) (hg:w.grownBy w' vb.ownBlock):w'.cell? ⟨g,7,none⟩=some vb∧∀ j,w'.frozen? ⟨g,j,none⟩=false:=by
 have e:w'.heap[g]?=w.heap[g]?:=hg.block g h.lt.2 (fun e=>by have:=(h.b.lt g e.symm).1;omega)
 simp only [World.cell?,World.frozen?,e,h.s]
 exact ⟨rfl,fun j=>by simp⟩
theorem RaW.grownB {g B1:Nat} {r:RuleM} {vh vf vby vl vn vz:Value} {hb:List Hl} {vb:Value} {w1 w w':World} (h:RaW g B1 r vh vf vby vl vn vz hb vb w1 w) (hg:w.grownBy w' vb.ownBlock):Below B1 w1 w' :=
 h.below.grown hg (by have:=h.lt;omega) (fun q e=>by have:=(h.b.lt q e).1;have:=h.lt;omega)
theorem RaW.bind {g B1:Nat} {r:RuleM} {vh vf vby vl vn vz:Value} {hb:List Hl} {vb:Value} {w1 w:World} (h:RaW g B1 r vh vf vby vl vn vz hb vb w1 w) (y:Hl) {v':Value} {w':World}
  (ho:w'.ownsRow (g+1) 41 3 v' (hb.length+1) (bindsV (hb.map bind0)++[.string y.1,.int .i64 0,.int .i64 0])) (hg:w.grownBy w' vb.ownBlock):RaW g B1 r vh vf vby vl vn vz (hb++[y]) v' w1 (w'.setCell ⟨g,7,none⟩ v'):=by
 have hl:=h.lt
 have hne:vb.ownBlock≠some g:=fun e=>by have:=(h.b.lt g e).1;omega
 have hz':=other_row h.b hg h.z (by decide)
 refine ⟨?_,ownsRow_setCell_other hz' (fun e=>by have:=h.zb g e;omega) _,?_,(h.below.grown hg (by omega) (fun q e=>by have:=(h.b.lt q e).1;omega)).setCell (p:=⟨g,7,none⟩) hl.1 _,⟨hl.1,by simp;have:=hg.size;omega⟩,h.zb⟩
 ·have hk:w'.heap[g]?=w.heap[g]?:=hg.block g hl.2 (fun e=>hne e.symm)
  have:=heap_setCell_same w' g 7 _ _ v' (by rw [hk];exact h.s)
  exact this
 ·rw [binds0_snoc,List.length_append]
  exact ownsRow_setCell_other ho (fun e=>by have:=(ho.lt g e).1;omega) _
def wyE (g B1:Nat) (r:RuleM) (l:List Prt) (vh vf vby vl vn vz vb:Value) (ns:List Nat):WyE:=⟨⟨r.fnd,l,r.holes,g,vf,vl,undef,undef,undef,0,0,vb,vz,B1⟩,r.nm,r.goal,vh,vby,vn,ns⟩
theorem RaW.way {g B1:Nat} {r:RuleM} {l:List Prt} {vh vf vby vl vn vz:Value} {vb:Value} {ns:List Nat} {w1 w:World} (h:RaW g B1 r vh vf vby vl vn vz r.holes vb w1 w) (hB:B1=w1.heap.size)
  (F:PartRow w1 vf r.fnd) (L:PartRow w1 vl l) (H:HoleRow w1 vh r.holes) (N:RowInts w1 vn .i64 (natI ns)):WyIn (wyE g B1 r l vh vf vby vl vn vz vb ns) (startS r.holes) w:=by
 have hl:=h.lt
 have hbb:∀ k,vb.ownBlock=some k→g+1≤k:=fun k e=>(h.b.lt k e).1
 have hzz:∀ k,vz.ownBlock=some k→B1≤k∧k<g:=fun k e=>⟨(h.z.lt k e).1,h.zb k e⟩
 have hkeep:∀ w',KeptX (wyE g B1 r l vh vf vby vl vn vz vb ns).k w w'→∀ q,q<w1.heap.size→q<w'.heap.size∧w'.heap[q]?=w1.heap[q]?:=fun w' hk q hq=>by
  have hs:=h.below.size
  have h1:=hk.size
  refine ⟨by omega,?_⟩
  rw [hk.block q (by omega) (fun e=>by have:=hbb q e.symm;omega) (fun e=>by have:=(hzz q e.symm).1;omega)]
  exact h.below.block q (by omega)
 refine ⟨fun w' hk=>⟨?_,Row.same F fun q _ hq=>hkeep w' hk q hq,Row.same L fun q _ hq=>hkeep w' hk q hq,Row.same H fun q _ hq=>hkeep w' hk q hq,Row.same N fun q _ hq=>hkeep w' hk q hq⟩,?_,h.z,by unfold startS;simp [wyE],fun k q hq=>absurd hq (startS_no _ _ _)⟩
 ·have:=hk.block g hl.2 (fun e=>by have:=hbb g e.symm;omega) (fun e=>by have:=(hzz g e.symm).2;omega)
  show w'.heap[g]?=_
  rw [this,h.s];rfl
 ·have:=World.ownsRow.base_mono h.b (show B1≤g+1 by omega)
  show w.ownsRow B1 41 3 vb r.holes.length (bindsV (bindsOf r.holes (startS r.holes)))
  rw [binds_start]
  exact this
theorem RaW.ok {g B1:Nat} {r:RuleM} {l:List Prt} {vh vf vby vl vn vz:Value} {vb:Value} {ns:List Nat} {w1 w:World} (h:RaW g B1 r vh vf vby vl vn vz r.holes vb w1 w) (hr:ruleZ r=0) (hs:SmallR r) (hl:wellB l=true) (sl:SmallL l) (hn:ns.length=r.holes.length) (hb:∀ n∈ns,n≤1000000000):WyOK (wyE g B1 r l vh vf vby vl vn vz vb ns):=by
 have hbb:∀ k,vb.ownBlock=some k→g+1≤k:=fun k e=>(h.b.lt k e).1
 refine ⟨(rule_holes hr).1,hl,hs.f.1,sl.1,hs.h.1,fun x hx=>⟨(hs.h.2 x hx).2,(hs.h.2 x hx).1⟩,fun x hx=>?_,hs.f,sl,hn,hb,?_,fun e=>?_,fun e=>?_⟩
 ·obtain ⟨i,hi,rfl⟩:=List.mem_iff_getElem.1 hx
  exact (holeB_inv hi ((ruleZ_inv hr).2.2.2.2.2.2.2 i hi)).2.2.1
 ·cases e:vb.ownBlock with
  | none=>exact Or.inl e
  | some q =>
   refine Or.inr fun e2=>?_
   have h1:=hbb q e
   have e3:vz.ownBlock=some q:=by rw [← e];exact e2.symm
   have:=h.zb q e3
   omega
 ·have:=hbb g e.symm;omega
 ·have:=h.zb g e.symm;omega
theorem lensL_le {os D:List Nat} {n m:Nat} (h:∀ d∈D,d≤m):∀ x∈lensL os D n,x≤m:=by
 intro x hx
 unfold lensL at hx
 obtain ⟨i,_,rfl⟩:=List.mem_map.1 hx
 unfold LD
 cases os.idxOf? i with
 | none=>exact Nat.zero_le _
 | some j =>
  simp only []
  rw [List.getD_eq_getElem?_getD]
  by_cases hj:j<D.length
  ·rw [List.getElem?_eq_getElem hj];exact h _ (List.getElem_mem hj)
  ·rw [List.getElem?_eq_none (by omega)];exact Nat.zero_le _
theorem LF_eq {g B1:Nat} {r:RuleM} {l:List Prt} {vh vf vby vl vn vz vb:Value} {os D:List Nat} (ho:∀ x∈os,x<r.holes.length):LF (wyE g B1 r l vh vf vby vl vn vz vb (lensL os D r.holes.length))=LD os D:=by
 funext h
 show (lensL os D r.holes.length).getD h 0=LD os D h
 rw [List.getD_eq_getElem?_getD]
 by_cases hh:h<r.holes.length
 ·rw [List.getElem?_eq_getElem (by rw [lensL_len];exact hh),lensL_get];rfl
 ·rw [List.getElem?_eq_none (by rw [lensL_len];omega),LD_none (fun hm=>hh (ho h hm))];rfl
def raRel (r:RuleM) (l:List Prt) (j most gl:Nat) (w5 wr:World):Prop :=
 ∃ D:List Nat,D.length=(orderL r.fnd r.holes).length∧(∀ d∈D,d≤most)∧MTried r.fnd l r.holes most (fuelZ r.fnd) j (startS r.holes) D∧LensB wr gl (lensL (orderL r.fnd r.holes) D r.holes.length)∧Below gl w5 wr
def raMu (os:List Nat) (most gl:Nat) (wr:World):Nat:=(most+1) ^ os.length-valD (most+1) (os.map fun h=>cellNat wr gl h)
def raIn (g B1:Nat) (r:RuleM) (vh vf vby vl vn vz:Value) (w1:World) (iv:Value) (wr:World):Prop :=
 ∃ (k:Nat) (vb:Value),iv=.int .i64 (k:Int)∧k≤r.holes.length∧RaW g B1 r vh vf vby vl vn vz (r.holes.take k) vb w1 wr
def odRel (os D:List Nat) (most n gl:Nat) (w8:World) (kv:Value) (wr:World):Prop :=
 ∃ m:Nat,m≤D.length∧kv=.int .i64 ((m:Int)-1)∧(∀ i (hi:i<D.length),m≤i→D[i]=most)∧LensB wr gl (lensL os (zerosL D m) n)∧Below gl w8 wr
theorem raMu_eq {os D:List Nat} {most gl n:Nat} {wr:World} (h:LensB wr gl (lensL os D n)) (hn:os.Nodup) (ho:∀ x∈os,x<n) (hd:D.length=os.length):raMu os most gl wr=(most+1) ^ os.length-valD (most+1) D:=by
 have e:(os.map fun h=>cellNat wr gl h)=D:=by
  apply List.ext_getElem
  ·rw [List.length_map,hd]
  ·intro i h1 h2
   rw [List.length_map] at h1
   rw [List.getElem_map,h.nat (by rw [lensL_len];exact ho _ (List.getElem_mem h1)),lensL_get,LD_at hn hd h1]
 unfold raMu
 rw [e]
theorem raMu_less {os D E:List Nat} {most gl n:Nat} {wr w':World} (h:LensB wr gl (lensL os D n)) (h':LensB w' gl (lensL os E n)) (hn:os.Nodup) (ho:∀ x∈os,x<n) (hd:D.length=os.length) (hm:∀ d∈D,d≤most) (he:incrD most D=some E):raMu os most gl w'<raMu os most gl wr:=by
 obtain ⟨h1,h2,h3⟩:=incr_some hm he
 rw [raMu_eq h hn ho hd,raMu_eq h' hn ho (h2.trans hd),h1]
 have h4:=valD_lt (B:=most+1) (D:=E) (fun d hx=>by have:=h3 d hx;omega)
 rw [h1,h2,hd] at h4
 omega
end Go.Proofs.YtlkheofphafofaaGreatDoor
namespace Go.Proofs.YtlkheofphafofaaGreatDoor
set_option linter.all false
attribute [local irreducible] Calls
attribute [local irreducible] wpStill
open Go.RowKit

set_option maxRecDepth 100000 in
set_option maxHeartbeats 32000000 in
theorem ref_At17 (r:RuleM) (hs:SmallR r) (vh vf vb:Value) (l:List Prt) (hl:SmallL l) (vl:Value) (i:Int) (w:World) (hr:RuleIn w r vh vf vb) (hlr:PartRow w vl l) :
  Calls Tryz.prog 12 #[ruleAgg r vh vf vb,vl,.int .i64 i] w (atPost r (atZ r l i) w):=by
 have HNO:RowKit.Hid (∀ w',atZ r l i=none→Below w.heap.size w w'→atPost r (atZ r l i) w (.returned (.tuple #[.slice none 0 0,.bool false])) w'):=Hd fun w' h hb=>by unfold atPost;rw [h];exact ⟨hb,rfl⟩
 have HYES:RowKit.Hid (∀ w' v τ,atZ r l i=some τ→Below w.heap.size w w'→w'.ownsRow w.heap.size 41 3 v r.holes.length (bindsV (bindsOf r.holes τ))→atPost r (atZ r l i) w (.returned (.tuple #[v,.bool true])) w'):=Hd fun w' v τ h hb ho=>by unfold atPost;rw [h];exact ⟨hb,_,rfl,ho⟩
 generalize atPost r (atZ r l i) w=Q at *
 obtain ⟨ah,ch,rfl,hch⟩:=Row.shape hr.H
 obtain ⟨af,cf,rfl,hcf⟩:=hr.F.slice
 obtain ⟨ab,cb,rfl,hcb⟩:=hr.B.slice
 obtain ⟨al,cl,rfl,hcl⟩:=hlr.slice
 have HS:=Hd hs
 have HL:=Hd hl
 have HR:=Hd hr
 have HLR:=Hd hlr
 have HR1:RowKit.Hid (RK (w.alloc (.cells #[.string r.nm,.int .u8 (r.goal:Int),.slice ah r.holes.length ch,.slice af r.fnd.length cf,.slice ab r.by'.length cb] 25)) w.heap.size r.nm r.goal (.slice ah r.holes.length ch) (.slice af r.fnd.length cf) (.slice ab r.by'.length cb)):=Hd (heap_alloc_new _ _)
 have HB1:RowKit.Hid (Below w.heap.size w (w.alloc (.cells #[.string r.nm,.int .u8 (r.goal:Int),.slice ah r.holes.length ch,.slice af r.fnd.length cf,.slice ab r.by'.length cb] 25))):=Hd ((Below.refl _ _).alloc (Nat.le_refl _) _)
 have hhl:=hs.h.1
 have hll:=hl.1
 have hfl:=hs.f.1
 clear hr hs hl hlr
 unfold ruleAgg
 obtain ⟨e0,e1,e2,e3,e4⟩:=HR1.out.cells
 have C1:=Hd (ref_Check16 r HS.out _ _ _ _ (HR.out.below HB1.out))
 unfold ruleAgg at C1
 go_enter Tryz.func12,Tryz.ntmps12
 go_wp2_with fail
 refine C1.out.mono ?_
 rintro e w2 ⟨rfl,hb2⟩
 generalize w.alloc (.cells #[.string r.nm,.int .u8 (r.goal:Int),.slice ah r.holes.length ch,.slice af r.fnd.length cf,.slice ab r.by'.length cb] 25)=W1 at *
 have HR2:=Hd (HR1.out.below hb2)
 have HB2:=Hd (bthen HB1.out hb2)
 clear hb2 C1 HB1 HR1 e0 e1 e2 e3 e4
 by_cases hz:ruleZ r=0
 case neg =>
  have g1:(ruleZ r != 0)=true:=by rw [bne_iff_ne];exact hz
  have HX:=Hd (HNO.out w2 (by unfold atZ;rw [if_neg (fun h=>hz h.1)]) HB2.out)
  clear hz
  generalize ruleZ r=z at *
  go_wp2_with fail
  exact HX.out
 have HZ:=Hd hz
 rw [hz]
 have CW:=Hd (ref_Well11 l (by omega) _ w2 (HLR.out.below HB2.out))
 clear hz
 go_wp2_with fail
 refine CW.out.mono ?_
 rintro e W3 ⟨rfl,rfl⟩
 clear CW
 cases hw:wellB l with
 | false =>
  have HX:=Hd (HNO.out w2 (by unfold atZ;rw [if_neg (fun h=>by rw [hw] at h;cases h.2.1)]) HB2.out)
  clear hw
  go_wp2_with fail
  exact HX.out
 | true =>
 have HW:=Hd hw
 clear hw
 by_cases hi0:i<0
 ·have HX:=Hd (HNO.out w2 (by unfold atZ;rw [if_neg (fun h=>by omega)]) HB2.out)
  go_wp2_with fail
  exact HX.out
 by_cases hil:(l.length:Int)≤i
 ·have HX:=Hd (HNO.out w2 (by unfold atZ;rw [if_neg (fun h=>by omega)]) HB2.out)
  go_wp2_with fail
  exact HX.out
 obtain ⟨j,rfl⟩:∃ j:Nat,i=(j:Int):=⟨i.toNat,by omega⟩
 have HAT:RowKit.Hid (atZ r l (j:Int)=(aPart r.fnd l r.holes (fuelZ r.fnd) 0 j (startS r.holes)).head?):=Hd (by
  unfold atZ;rw [if_pos ⟨HZ.out,HW.out,by omega,by omega⟩,Int.toNat_natCast])
 have HJL:RowKit.Hid (j<l.length):=Hd (by omega)
 have HFIT:=Hd (atFit HZ.out HW.out HJL.out)
 have HWID:=Hd (show widest l=((widest l).toNat:Int)∧(widest l).toNat≤1048576 from by
  have h1:=(widest_ge l).1;have h2:=widest_well HW.out;omega)
 obtain ⟨e0,e1,e2,e3,e4⟩:=HR2.out.cells
 have C3:=Hd (ref_Order r HS.out _ _ _ w2 (HR.out.below HB2.out))
 unfold ruleAgg at C3
 go_wp2_with fail
 refine C3.out.mono ?_
 intro e w4 h4
 unfold ordPost at h4
 obtain ⟨ov,rfl,hb4,ho4⟩:=h4
 have HB4:=Hd (bthen HB2.out hb4)
 have HR4:=Hd (HR2.out.below hb4)
 have HONL:=Hd (show (orderL r.fnd r.holes).Nodup from dd_nodup _ _ List.nodup_nil)
 have HOLT:RowKit.Hid (∀ x∈orderL r.fnd r.holes,x<r.holes.length):=Hd fun x hx=>by rw [← ordK_all] at hx;exact ordK_lt hx
 have HOLN:RowKit.Hid ((orderL r.fnd r.holes).length≤r.holes.length):=Hd (by rw [← ordK_all];exact ordK_len _ _ _)
 have HO4:=Hd ho4
 obtain ⟨oa,oc,rfl,hoc⟩:∃ oa oc,ov=.slice oa (orderL r.fnd r.holes).length oc∧(orderL r.fnd r.holes).length≤oc:=by
  obtain ⟨a,c,h1,h2,_⟩:=ho4.open'
  have e:(natI (orderL r.fnd r.holes)).length=(orderL r.fnd r.holes).length:=by unfold natI;simp
  rw [e] at h1 h2
  exact ⟨a,c,h1,h2⟩
 have HOC:RowKit.Hid (∀ W,Below w4.heap.size w4 W→∀ k (hk:k<(orderL r.fnd r.holes).length),∃ ob oo,oa=some ⟨ob,oo,none⟩∧W.cell? ⟨ob,oo+k,none⟩=some (.int .i64 (((orderL r.fnd r.holes)[k]:Nat):Int))):=Hd fun W hW k hk=>by
  obtain ⟨a,c,h1,h2,h3⟩:=HO4.out.open'
  have e:(natI (orderL r.fnd r.holes)).length=(orderL r.fnd r.holes).length:=by unfold natI;simp
  simp only [Value.slice.injEq] at h1
  obtain ⟨b,o,hb,hlt,hc⟩:=h3 (by omega)
  refine ⟨b,o,by rw [h1.1];exact hb,?_⟩
  rw [hW.cell (p:=⟨b,o+k,none⟩) hlt,hc k (by omega)]
  unfold natI
  rw [List.getElem_map]
 have CWI:=Hd (ref_Widest l (by omega) _ w4 (HLR.out.below HB4.out))
 rw [HWID.out.1] at CWI
 have hwid:=HWID.out.2
 clear hb4 ho4 C3 HB2 HR2 e0 e1 e2 e3 e4 HO4 HWID
 obtain ⟨e0,e1,e2,e3,e4⟩:=HR4.out.cells
 generalize hos:orderL r.fnd r.holes=os at *
 have HOS:=Hd hos
 clear hos
 generalize (widest l).toNat=most at *
 go_wp2_with fail
 refine CWI.out.mono ?_
 rintro e w5 ⟨rfl,rfl⟩
 clear CWI
 have hmk:=Tmake_ints r.holes.length (by omega) w4
 rw [List.map_replicate,List.toArray_replicate] at hmk
 have HLB0:RowKit.Hid (LensB (w4.alloc (.cells (Array.replicate r.holes.length (Value.int .i64 0)) 3)) w4.heap.size (lensL os (os.map fun _=>0) r.holes.length)):=Hd (by
  unfold LensB
  rw [heap_alloc_new,lensL_zero]
  unfold natV
  rw [List.map_replicate,List.toArray_replicate];rfl)
 have HB5:RowKit.Hid (Below w4.heap.size w4 (w4.alloc (.cells (Array.replicate r.holes.length (Value.int .i64 0)) 3))):=Hd ((Below.refl _ _).alloc (Nat.le_refl _) _)
 go_upto_region 6 with (fail)
 clear hmk e0 e1 e2 e3 e4
 generalize w4.alloc (.cells (Array.replicate r.holes.length (Value.int .i64 0)) 3)=w5 at *
 generalize hgl:w4.heap.size=gl at *
 have HGL:=Hd hgl
 clear hgl
 have HGR:RowKit.Hid (w.heap.size<gl):=Hd (by have:=keeps_lt HR4.out;rw [HGL.out] at this;exact this)
 have hol:=HOLN.out
 go_loopw [] (fun wr=>raRel r l j most gl w4 wr) (fun wr=>raMu os most gl wr)
 case atStart=>exact ⟨os.map fun _=>0,by rw [List.length_map,HOS.out],fun d hd=>by obtain ⟨_,_,rfl⟩:=List.mem_map.1 hd;omega,by rw [← HOS.out];exact MTried.start _ _ _ _ _ _ _,by rw [HOS.out];exact HLB0.out,HB5.out⟩
 case round =>
  obtain ⟨D,hD,hd,ht,hlb,hb⟩:=hrel
  obtain ⟨w1,rfl⟩:∃ w1,w1=wr:=⟨_,rfl⟩
  rw [HOS.out] at hD hlb
  have HD:=Hd hD
  have HDM:=Hd hd
  have HTR:=Hd ht
  have HLB:=Hd hlb
  have HB:=Hd hb
  have HBW:RowKit.Hid (Below w.heap.size w w1):=Hd (HB4.out.trans (hb.mono (by have:=HB4.out.size;have:=HGL.out;omega)))
  have HRr:RowKit.Hid (RK w1 w.heap.size r.nm r.goal (.slice ah r.holes.length ch) (.slice af r.fnd.length cf) (.slice ab r.by'.length cb)):=Hd (by
   have h:=HR4.out
   unfold RK at h ⊢
   rw [hb.block _ HGR.out];exact h)
  have HGLR:RowKit.Hid (gl<w1.heap.size):=Hd (keeps_lt hlb)
  have HLROW:=Hd (hlb.row (by rw [lensL_len];omega))
  rw [lensL_len] at HLROW
  clear hD hd ht hlb hb
  have hmk2:=fun W=>Tmake_bools r.holes.length (by omega) W
  have HS6:RowKit.Hid (∀ W,Below w1.heap.size w1 W→W.cell? ⟨w.heap.size,0,none⟩=some (.string r.nm)∧W.cell? ⟨w.heap.size,1,none⟩=some (.int .u8 (r.goal:Int))∧W.cell? ⟨w.heap.size,2,none⟩=some (.slice ah r.holes.length ch)∧W.cell? ⟨w.heap.size,3,none⟩=some (.slice af r.fnd.length cf)∧W.cell? ⟨w.heap.size,4,none⟩=some (.slice ab r.by'.length cb)):=Hd fun W hb=>(HRr.out.below hb).cells
  have HBD:RowKit.Hid (Below w1.heap.size w1 w1.drew):=Hd (Below.refl _ _).drew
  obtain ⟨e0,e1,e2,e3,e4⟩:=HRr.out.cells
  go_upto_region 6 with (fail)
  clear e0 e1 e2 e3 e4
  go_region_held3 (fun W=>W.cell? ⟨w.heap.size,0,none⟩=some (.string r.nm)∧W.cell? ⟨w.heap.size,1,none⟩=some (.int .u8 (r.goal:Int))∧W.cell? ⟨w.heap.size,2,none⟩=some (.slice ah r.holes.length ch)∧W.cell? ⟨w.heap.size,3,none⟩=some (.slice af r.fnd.length cf)∧W.cell? ⟨w.heap.size,4,none⟩=some (.slice ab r.by'.length cb)) (first | exact HS6.out _ HBD.out | exact HS6.out _ (HBD.out.alloc HBD.out.size _) | exact HS6.out _ ((HBD.out.alloc HBD.out.size _).alloc (by simp) _) | exact HS6.out _ ((Below.refl _ _).alloc (Nat.le_refl _) _) | exact HS6.out _ (((Below.refl _ _).alloc (Nat.le_refl _) _).alloc (by simp) _) | exact HS6.out _ (((Below.refl _ _).alloc (Nat.le_refl _) _).drew) | exact HS6.out _ ((((Below.refl _ _).alloc (Nat.le_refl _) _).alloc (by simp) _).drew)) (fail)
  have HBA:RowKit.Hid (Below w1.heap.size w1 (((w1.alloc (.cells (Array.replicate r.holes.length (Value.bool false)) 4)).alloc (.cells #[.string r.nm,.int .u8 (r.goal:Int),.slice ah r.holes.length ch,.slice af r.fnd.length cf,.slice ab r.by'.length cb,.slice al l.length cl,.slice (some ⟨gl,0,none⟩) r.holes.length r.holes.length,.slice none 0 0,.slice (some ⟨w1.heap.size,0,none⟩) r.holes.length r.holes.length] 78)).drew)):=Hd ((((Below.refl _ _).alloc (Nat.le_refl _) _).alloc (by simp) _).drew)
  have HRA0:RowKit.Hid (RaW (w1.heap.size+1) w1.heap.size r (.slice ah r.holes.length ch) (.slice af r.fnd.length cf) (.slice ab r.by'.length cb) (.slice al l.length cl) (.slice (some ⟨gl,0,none⟩) r.holes.length r.holes.length) (.slice (some ⟨w1.heap.size,0,none⟩) r.holes.length r.holes.length) [] (.slice none 0 0) w1 (((w1.alloc (.cells (Array.replicate r.holes.length (Value.bool false)) 4)).alloc (.cells #[.string r.nm,.int .u8 (r.goal:Int),.slice ah r.holes.length ch,.slice af r.fnd.length cf,.slice ab r.by'.length cb,.slice al l.length cl,.slice (some ⟨gl,0,none⟩) r.holes.length r.holes.length,.slice none 0 0,.slice (some ⟨w1.heap.size,0,none⟩) r.holes.length r.holes.length] 78)).drew)):=Hd (by
   refine ⟨?_,?_,World.ownsRow_nil _ _ _ _,HBA.out,⟨by omega,by simp⟩,fun q e=>by simp [Value.ownBlock] at e;omega⟩
   ·have h:=heap_alloc_new (w1.alloc (.cells (Array.replicate r.holes.length (Value.bool false)) 4)) (.cells #[.string r.nm,.int .u8 (r.goal:Int),.slice ah r.holes.length ch,.slice af r.fnd.length cf,.slice ab r.by'.length cb,.slice al l.length cl,.slice (some ⟨gl,0,none⟩) r.holes.length r.holes.length,.slice none 0 0,.slice (some ⟨w1.heap.size,0,none⟩) r.holes.length r.holes.length] 78)
    rw [World.size_alloc] at h
    exact h
   ·rw [bound_start]
    refine ⟨by simp,Or.inr ⟨w1.heap.size,r.holes.length,Array.replicate r.holes.length (Value.bool false),rfl,Nat.le_refl _,?_,Nat.le_refl _,by unfold maxLen;omega,by simp,by simp⟩⟩
    exact keeps ((Below.refl _ _).alloc (Nat.le_refl _) (.cells #[.string r.nm,.int .u8 (r.goal:Int),.slice ah r.holes.length ch,.slice af r.fnd.length cf,.slice ab r.by'.length cb,.slice al l.length cl,.slice (some ⟨gl,0,none⟩) r.holes.length r.holes.length,.slice none 0 0,.slice (some ⟨w1.heap.size,0,none⟩) r.holes.length r.holes.length] 78)) (heap_alloc_new w1 (.cells (Array.replicate r.holes.length (Value.bool false)) 4)))
  clear hmk2 HBA
  generalize ((w1.alloc (.cells (Array.replicate r.holes.length (Value.bool false)) 4)).alloc (.cells #[.string r.nm,.int .u8 (r.goal:Int),.slice ah r.holes.length ch,.slice af r.fnd.length cf,.slice ab r.by'.length cb,.slice al l.length cl,.slice (some ⟨gl,0,none⟩) r.holes.length r.holes.length,.slice none 0 0,.slice (some ⟨w1.heap.size,0,none⟩) r.holes.length r.holes.length] 78)).drew=W7 at *
  generalize hB1:w1.heap.size=B1 at *
  have HB1:=Hd hB1
  clear hB1
  generalize hgg:B1+1=g at *
  have HGG:=Hd hgg
  clear hgg
  go_wp2_with fail
  go_loopw [12] (fun iv wr=>raIn g B1 r (.slice ah r.holes.length ch) (.slice af r.fnd.length cf) (.slice ab r.by'.length cb) (.slice al l.length cl) (.slice (some ⟨gl,0,none⟩) r.holes.length r.holes.length) (.slice (some ⟨B1,0,none⟩) r.holes.length r.holes.length) w1 iv wr) (fun iv _=>r.holes.length-(intOf iv).toNat)
  case atStart=>exact ⟨0,_,rfl,Nat.zero_le _,HRA0.out⟩
  case round =>
   obtain ⟨k,vb,rfl,hk,hA⟩:=hrel
   have HA:=Hd hA
   have HBI:RowKit.Hid (Below w.heap.size w wr):=Hd (HBW.out.trans (hA.below.mono (by have:=HBW.out.size;have:=HB1.out;omega)))
   clear hA
   obtain ⟨e0,e1,e2,e3,e4⟩:=HS6.out wr HA.out.below
   by_cases hlt:k<r.holes.length
   ·have hkl:(k:Int)<r.holes.length:=by omega
    have hk0:(0:Int)≤(k:Int):=by omega
    have hkc:(k:Int)<(ch:Int):=by omega
    obtain ⟨b1,o1,rfl,_,_,_,hc1⟩:=HR.out.H.at HBI.out (show 0<r.holes.length by omega)
    have HSX:RowKit.Hid (∀ W,Below B1 w1 W→W.cell? ⟨w.heap.size,2,none⟩=some (.slice (some ⟨b1,o1,none⟩) r.holes.length ch)∧W.cell? ⟨b1,o1+k*2,none⟩=some (.string (r.holes[k]).1)):=Hd fun W hW=>by
     have hbw:Below w.heap.size w W:=HBW.out.trans (hW.mono (by have:=HBW.out.size;have:=HB1.out;omega))
     obtain ⟨b',o',e',_,_,_,hcc⟩:=HR.out.H.at hbw (show 0<r.holes.length by omega)
     simp only [Option.some.injEq,Addr.mk.injEq,and_true] at e'
     obtain ⟨rfl,rfl⟩:=e'
     exact ⟨(HS6.out W hW).2.2.1,(hcc k hlt).1⟩
    have HTK:=Hd (take_snoc hlt)
    have HLN:RowKit.Hid ((r.holes.take k).length=k):=Hd (by rw [List.length_take];omega)
    obtain ⟨y,hy⟩:∃ y,y=r.holes[k]:=⟨_,rfl⟩
    rw [← hy] at HTK HSX
    obtain ⟨yn,yk⟩:=y
    simp only [] at HSX
    have HMS:RowKit.Hid (r.holes.length-(k+1)<r.holes.length-k):=Hd (by omega)
    clear hc1 hy
    go_upto_region 10 with (fail)
    clear e0 e1 e2 e3 e4
    refine region_cut (fun a a' w'=>∃ (v3a:Option Addr) (v3n v3c gb:Nat),a'=((((((((((((((((a.put (some 56) (.pointer (some ⟨g,0,none⟩))).put (some 57) (.pointer (some ⟨g,0,none⟩))).put (some 58) (.pointer (some ⟨g,0,none⟩))).put (some 59) (.pointer (some ⟨g,7,none⟩))).put (some 60) vb).put (some 61) (.pointer (some ⟨w.heap.size,2,none⟩))).put (some 62) (.slice (some ⟨b1,o1,none⟩) r.holes.length ch)).put (some 63) (.int .i64 (k:Int))).put (some 64) (.pointer (some ⟨b1,o1+k*2,none⟩))).put (some 65) (.pointer (some ⟨b1,o1+k*2,none⟩))).put (some 66) (.string yn)).put (some 67) (.agg #[.string yn,.int .i64 0,.int .i64 0])).put (some 68) (.slice (some ⟨gb,0,none⟩) 1 1)).put (some 69) (.slice v3a v3n v3c)).put (some 70) (.pointer (some ⟨g,0,none⟩))).put (some 71) (.pointer (some ⟨g,7,none⟩)))∧RaW g B1 r (.slice (some ⟨b1,o1,none⟩) r.holes.length ch) (.slice af r.fnd.length cf) (.slice ab r.by'.length cb) (.slice al l.length cl) (.slice (some ⟨gl,0,none⟩) r.holes.length r.holes.length) (.slice (some ⟨B1,0,none⟩) r.holes.length r.holes.length) (r.holes.take k++[(yn,yk)]) (.slice v3a v3n v3c) w1 w') ?_ ?_
    ·refine wp_region_held_drew (S:=fun W'=>W'.cell? ⟨w.heap.size,2,none⟩=some (.slice (some ⟨b1,o1,none⟩) r.holes.length ch)∧W'.cell? ⟨b1,o1+k*2,none⟩=some (.string yn)) (by kernel_rfl) (HSX.out _ HA.out.drew.below) (fun hHeld=>?_)
     have HD:=Hd HA.out.drew
     clear HA
     generalize wr.drew=wd at *
     refine wpAnyH_take (i:=0) (oi:=⟨some 56,_,_,_,_,_⟩) (v:=?vr1_0) rfl (by kernel_rfl) (by kernel_rfl) (by kernel_rfl) (fun _ _ _ h=>h) (Or.inl ⟨by kernel_rfl,?hyr1_0⟩) hHeld ?restr1_0
     case hyr1_0=>intro w hSw;(try dsimp only at hSw);go_simp;(try with_reducible rfl)
     (try simp only [Act.put,List.setIfInBounds_toArray,List.set_cons_zero,List.set_cons_succ])
     refine wpAnyH_take (i:=1) (oi:=⟨some 57,_,_,_,_,_⟩) (v:=?vr2_1) rfl (by kernel_rfl) (by kernel_rfl) (by kernel_rfl) (fun _ _ _ h=>h) (Or.inl ⟨by kernel_rfl,?hyr2_1⟩) hHeld ?restr2_1
     case hyr2_1=>intro w hSw;(try dsimp only at hSw);go_simp;(try with_reducible rfl)
     (try simp only [Act.put,List.setIfInBounds_toArray,List.set_cons_zero,List.set_cons_succ])
     refine wpAnyH_take (i:=2) (oi:=⟨some 58,_,_,_,_,_⟩) (v:=?vr3_2) rfl (by kernel_rfl) (by kernel_rfl) (by kernel_rfl) (fun _ _ _ h=>h) (Or.inl ⟨by kernel_rfl,?hyr3_2⟩) hHeld ?restr3_2
     case hyr3_2=>intro w hSw;(try dsimp only at hSw);go_simp;(try with_reducible rfl)
     (try simp only [Act.put,List.setIfInBounds_toArray,List.set_cons_zero,List.set_cons_succ])
     refine wpAnyH_take (i:=3) (oi:=⟨some 59,_,_,_,_,_⟩) (v:=?vr4_3) rfl (by kernel_rfl) (by kernel_rfl) (by kernel_rfl) (fun _ _ _ h=>h) (Or.inl ⟨by kernel_rfl,?hyr4_3⟩) hHeld ?restr4_3
     case hyr4_3=>intro w hSw;(try dsimp only at hSw);go_simp;(try with_reducible rfl)
     (try simp only [Act.put,List.setIfInBounds_toArray,List.set_cons_zero,List.set_cons_succ])
     refine wpAnyH_take (i:=5) (oi:=⟨some 61,_,_,_,_,_⟩) (v:=?vr5_5) rfl (by kernel_rfl) (by kernel_rfl) (by kernel_rfl) (fun _ _ _ h=>h) (Or.inl ⟨by kernel_rfl,?hyr5_5⟩) hHeld ?restr5_5
     case hyr5_5=>intro w hSw;(try dsimp only at hSw);go_simp;(try with_reducible rfl)
     (try simp only [Act.put,List.setIfInBounds_toArray,List.set_cons_zero,List.set_cons_succ])
     refine wpAnyH_take (i:=6) (oi:=⟨some 62,_,_,_,_,_⟩) (v:=?vr6_6) rfl (by kernel_rfl) (by kernel_rfl) (by kernel_rfl) (fun _ _ _ h=>h) (Or.inl ⟨by kernel_rfl,?hyr6_6⟩) hHeld ?restr6_6
     case hyr6_6=>intro w hSw;(try dsimp only at hSw);go_simp;(try with_reducible rfl)
     (try simp only [Act.put,List.setIfInBounds_toArray,List.set_cons_zero,List.set_cons_succ])
     refine wpAnyH_take (i:=7) (oi:=⟨some 63,_,_,_,_,_⟩) (v:=?vr7_7) rfl (by kernel_rfl) (by kernel_rfl) (by kernel_rfl) (fun _ _ _ h=>h) (Or.inl ⟨by kernel_rfl,?hyr7_7⟩) hHeld ?restr7_7
     case hyr7_7=>intro w hSw;(try dsimp only at hSw);go_simp;(try with_reducible rfl)
     (try simp only [Act.put,List.setIfInBounds_toArray,List.set_cons_zero,List.set_cons_succ])
     refine wpAnyH_take (i:=8) (oi:=⟨some 64,_,_,_,_,_⟩) (v:=?vr8_8) rfl (by kernel_rfl) (by kernel_rfl) (by kernel_rfl) (fun _ _ _ h=>h) (Or.inl ⟨by kernel_rfl,?hyr8_8⟩) hHeld ?restr8_8
     case hyr8_8=>intro w hSw;(try dsimp only at hSw);go_simp;(try with_reducible rfl)
     (try simp only [Act.put,List.setIfInBounds_toArray,List.set_cons_zero,List.set_cons_succ])
     refine wpAnyH_take (i:=9) (oi:=⟨some 65,_,_,_,_,_⟩) (v:=?vr9_9) rfl (by kernel_rfl) (by kernel_rfl) (by kernel_rfl) (fun _ _ _ h=>h) (Or.inl ⟨by kernel_rfl,?hyr9_9⟩) hHeld ?restr9_9
     case hyr9_9=>intro w hSw;(try dsimp only at hSw);go_simp;(try with_reducible rfl)
     (try simp only [Act.put,List.setIfInBounds_toArray,List.set_cons_zero,List.set_cons_succ])
     refine wpAnyH_take (i:=10) (oi:=⟨some 66,_,_,_,_,_⟩) (v:=?vr10_10) rfl (by kernel_rfl) (by kernel_rfl) (by kernel_rfl) (fun _ _ _ h=>h) (Or.inl ⟨by kernel_rfl,?hyr10_10⟩) hHeld ?restr10_10
     case hyr10_10=>intro w hSw;(try dsimp only at hSw);go_simp;(try with_reducible rfl)
     (try simp only [Act.put,List.setIfInBounds_toArray,List.set_cons_zero,List.set_cons_succ])
     refine wpAnyH_take (i:=11) (oi:=⟨some 67,_,_,_,_,_⟩) (v:=?vr11_11) rfl (by kernel_rfl) (by kernel_rfl) (by kernel_rfl) (fun _ _ _ h=>h) (Or.inl ⟨by kernel_rfl,?hyr11_11⟩) hHeld ?restr11_11
     case hyr11_11=>intro w hSw;(try dsimp only at hSw);go_simp;(try with_reducible rfl)
     (try simp only [Act.put,List.setIfInBounds_toArray,List.set_cons_zero,List.set_cons_succ])
     have HLT:=Hd (HD.out.alloc (.cells #[.string yn,.int .i64 0,.int .i64 0] 41))
     refine wpAnyH_ready (rs:=[4,12]) (by kernel_rfl) (by simp) ?_
     refine AllReadyH.cons (o:=⟨some 60,_,_,_,_,_⟩) rfl (fun K hK=>?qA) (AllReadyH.cons (o:=⟨some 68,_,_,_,_,_⟩) rfl (fun K hK=>?qB) AllReadyH.nil)
     case qA =>
      obtain ⟨c7,cz⟩:=HD.out.cells
      go_simp
      clear c7 cz
      refine hK.out _ _ hHeld (fun hH2=>?_)
      clear hK K hHeld
      (try simp only [Act.put,List.setIfInBounds_toArray,List.set_cons_zero,List.set_cons_succ])
      refine wpAnyH_ready (rs:=[12]) (by kernel_rfl) (by simp) ?_
      refine AllReadyH.cons (o:=⟨some 68,_,_,_,_,_⟩) rfl (fun K hK=>?_) AllReadyH.nil
      go_simp
      refine hK.out _ (wd.alloc (.cells #[.string yn,.int .i64 0,.int .i64 0] 41)) (HSX.out _ HLT.out.below) (fun hH3=>?_)
      clear hK K hH2
      (try simp only [Act.put,List.setIfInBounds_toArray,List.set_cons_zero,List.set_cons_succ])
      refine wpAnyH_ready (rs:=[13]) (by kernel_rfl) (by simp) ?_
      refine AllReadyH.cons (o:=⟨some 69,_,_,_,_,_⟩) rfl (fun K hK=>?_) AllReadyH.nil
      rw [if_pos (by kernel_rfl)]
      obtain ⟨vx,w6,hr,hown,hgr,_⟩:=append_lit_eq (P:=Tryz.prog) wd #[.string yn,.int .i64 0,.int .i64 0] 41 28 28 41 Tryz.underlying28 (g+1) Minfo_bind rfl (by decide) vb _ _ HD.out.b 1 1 rfl (Nat.le_refl _) (by intro u hu;simp at hu;rcases hu with rfl | rfl | rfl <;> rfl) (by rw [HLN.out];omega) (by rw [HLN.out];omega) (by have:=HD.out.lt;omega)
      obtain ⟨vxa,vxn,vxc,rfl⟩:=owns_slice hown
      refine oper_append_run _ _ _ _ hr rfl rfl rfl rfl ?_
      refine hK.out _ _ (HSX.out _ (HLT.out.grownB hgr)) (fun hH5=>?_)
      clear hK K hr hH3
      (try simp only [Act.put,List.setIfInBounds_toArray,List.set_cons_zero,List.set_cons_succ])
      refine wpAnyH_take (i:=14) (oi:=⟨some 70,_,_,_,_,_⟩) (v:=?vr12_14) rfl (by kernel_rfl) (by kernel_rfl) (by kernel_rfl) (fun _ _ _ h=>h) (Or.inl ⟨by kernel_rfl,?hyr12_14⟩) hH5 ?restr12_14
      case hyr12_14=>intro w hSw;(try dsimp only at hSw);go_simp;(try with_reducible rfl)
      (try simp only [Act.put,List.setIfInBounds_toArray,List.set_cons_zero,List.set_cons_succ])
      refine wpAnyH_take (i:=15) (oi:=⟨some 71,_,_,_,_,_⟩) (v:=?vr13_15) rfl (by kernel_rfl) (by kernel_rfl) (by kernel_rfl) (fun _ _ _ h=>h) (Or.inl ⟨by kernel_rfl,?hyr13_15⟩) hH5 ?restr13_15
      case hyr13_15=>intro w hSw;(try dsimp only at hSw);go_simp;(try with_reducible rfl)
      (try simp only [Act.put,List.setIfInBounds_toArray,List.set_cons_zero,List.set_cons_succ])
      obtain ⟨cc,cz⟩:=HLT.out.bcells hgr
      have HF:=Hd (HLT.out.bind (yn,yk) hown hgr)
      refine wpAnyH_ready (rs:=[16]) (by kernel_rfl) (by simp) ?_
      refine AllReadyH.cons (o:=⟨none,_,_,_,_,_⟩) rfl (fun K hK=>?_) AllReadyH.nil
      clear hown hgr
      go_simp
      refine hK.out _ _ (HSX.out _ HF.out.below) (fun hH6=>?_)
      clear hK K hH5 cc cz
      (try simp only [Act.put,List.setIfInBounds_toArray,List.set_cons_zero,List.set_cons_succ])
      refine wpAnyH_done (by kernel_rfl) ?_ _
      refine ⟨vxa,vxn,vxc,wd.heap.size,?_,HF.out⟩
      kernel_rfl
     case qB =>
      go_simp
      refine hK.out _ (wd.alloc (.cells #[.string yn,.int .i64 0,.int .i64 0] 41)) (HSX.out _ HLT.out.below) (fun hH2=>?_)
      clear hK K hHeld
      (try simp only [Act.put,List.setIfInBounds_toArray,List.set_cons_zero,List.set_cons_succ])
      refine wpAnyH_ready (rs:=[4]) (by kernel_rfl) (by simp) ?_
      refine AllReadyH.cons (o:=⟨some 60,_,_,_,_,_⟩) rfl (fun K hK=>?_) AllReadyH.nil
      obtain ⟨c7,cz⟩:=HLT.out.cells
      go_simp
      clear c7 cz
      refine hK.out _ _ hH2 (fun hH3=>?_)
      clear hK K hH2
      (try simp only [Act.put,List.setIfInBounds_toArray,List.set_cons_zero,List.set_cons_succ])
      refine wpAnyH_ready (rs:=[13]) (by kernel_rfl) (by simp) ?_
      refine AllReadyH.cons (o:=⟨some 69,_,_,_,_,_⟩) rfl (fun K hK=>?_) AllReadyH.nil
      rw [if_pos (by kernel_rfl)]
      obtain ⟨vx,w6,hr,hown,hgr,_⟩:=append_lit_eq (P:=Tryz.prog) wd #[.string yn,.int .i64 0,.int .i64 0] 41 28 28 41 Tryz.underlying28 (g+1) Minfo_bind rfl (by decide) vb _ _ HD.out.b 1 1 rfl (Nat.le_refl _) (by intro u hu;simp at hu;rcases hu with rfl | rfl | rfl <;> rfl) (by rw [HLN.out];omega) (by rw [HLN.out];omega) (by have:=HD.out.lt;omega)
      obtain ⟨vxa,vxn,vxc,rfl⟩:=owns_slice hown
      refine oper_append_run _ _ _ _ hr rfl rfl rfl rfl ?_
      refine hK.out _ _ (HSX.out _ (HLT.out.grownB hgr)) (fun hH5=>?_)
      clear hK K hr hH3
      (try simp only [Act.put,List.setIfInBounds_toArray,List.set_cons_zero,List.set_cons_succ])
      refine wpAnyH_take (i:=14) (oi:=⟨some 70,_,_,_,_,_⟩) (v:=?vr14_14) rfl (by kernel_rfl) (by kernel_rfl) (by kernel_rfl) (fun _ _ _ h=>h) (Or.inl ⟨by kernel_rfl,?hyr14_14⟩) hH5 ?restr14_14
      case hyr14_14=>intro w hSw;(try dsimp only at hSw);go_simp;(try with_reducible rfl)
      (try simp only [Act.put,List.setIfInBounds_toArray,List.set_cons_zero,List.set_cons_succ])
      refine wpAnyH_take (i:=15) (oi:=⟨some 71,_,_,_,_,_⟩) (v:=?vr15_15) rfl (by kernel_rfl) (by kernel_rfl) (by kernel_rfl) (fun _ _ _ h=>h) (Or.inl ⟨by kernel_rfl,?hyr15_15⟩) hH5 ?restr15_15
      case hyr15_15=>intro w hSw;(try dsimp only at hSw);go_simp;(try with_reducible rfl)
      (try simp only [Act.put,List.setIfInBounds_toArray,List.set_cons_zero,List.set_cons_succ])
      obtain ⟨cc,cz⟩:=HLT.out.bcells hgr
      have HF:=Hd (HLT.out.bind (yn,yk) hown hgr)
      refine wpAnyH_ready (rs:=[16]) (by kernel_rfl) (by simp) ?_
      refine AllReadyH.cons (o:=⟨none,_,_,_,_,_⟩) rfl (fun K hK=>?_) AllReadyH.nil
      clear hown hgr
      go_simp
      refine hK.out _ _ (HSX.out _ HF.out.below) (fun hH6=>?_)
      clear hK K hH5 cc cz
      (try simp only [Act.put,List.setIfInBounds_toArray,List.set_cons_zero,List.set_cons_succ])
      refine wpAnyH_done (by kernel_rfl) ?_ _
      refine ⟨vxa,vxn,vxc,wd.heap.size,?_,HF.out⟩
      kernel_rfl
    ·rintro _ W10 ⟨v3a,v3n,v3c,gb,rfl,hA2⟩
     (try simp only [Act.put,List.setIfInBounds_toArray,List.set_cons_zero,List.set_cons_succ])
     rw [← HTK.out] at hA2
     have HX:RowKit.Hid (raIn g B1 r (.slice (some ⟨b1,o1,none⟩) r.holes.length ch) (.slice af r.fnd.length cf) (.slice ab r.by'.length cb) (.slice al l.length cl) (.slice (some ⟨gl,0,none⟩) r.holes.length r.holes.length) (.slice (some ⟨B1,0,none⟩) r.holes.length r.holes.length) w1 (.int .i64 ((k:Int)+1)) W10):=Hd ⟨k+1,_,by push_cast;rfl,hlt,hA2⟩
     clear hA2
     go_wp2_with fail
     refine ⟨?_,(by have:=HMS.out;first | (simp only [intOf];omega) | (simp [intOf];omega) | exact this)⟩
     first
      | exact HX.out
      | (repeat apply Exists.intro
         refine ⟨?_,rfl⟩
         exact HX.out)
   ·obtain rfl:k=r.holes.length:=by omega
    have hkl:¬ (r.holes.length:Int)<r.holes.length:=by omega
    have hA:=HA.out
    rw [List.take_length] at hA
    have HA:=Hd hA
    have HNB:RowKit.Hid (∀ x∈lensL os D r.holes.length,x≤most):=Hd (lensL_le HDM.out)
    have HWY:=Hd (hA.way (l:=l) (ns:=lensL os D r.holes.length) HB1.out.symm (HR.out.F.below HBW.out) (HLR.out.below HBW.out) (HR.out.H.below HBW.out) HLROW.out)
    have HOK:=Hd (hA.ok (l:=l) (ns:=lensL os D r.holes.length) HZ.out HS.out HW.out HL.out (lensL_len _ _ _) (fun x hx=>by have:=HNB.out x hx;omega))
    have hwz:=well_zero HFIT.out.F
    have CP:=Hd (wy_part _ HOK.out (fuelZ r.fnd) wr (startS r.holes) 0 j HWY.out hwz.1 HJL.out (by show 2*(endB r.fnd 0-0)≤_;rw [hwz.2];unfold fuelZ;omega))
    have HLF:RowKit.Hid (LF (wyE g B1 r l (.slice ah r.holes.length ch) (.slice af r.fnd.length cf) (.slice ab r.by'.length cb) (.slice al l.length cl) (.slice (some ⟨gl,0,none⟩) r.holes.length r.holes.length) (.slice (some ⟨B1,0,none⟩) r.holes.length r.holes.length) vb (lensL os D r.holes.length))=LD os D):=Hd (LF_eq HOLT.out)
    have HOWN:RowKit.Hid (∀ q,vb.ownBlock=some q→g+1≤q):=Hd fun q e=>(hA.b.lt q e).1
    clear hA hwz
    go_wp2_with fail
    refine CP.out.mono ?_
    intro e w8 h8
    obtain ⟨hk8,⟨τ,hτ,rfl,hi8⟩ | ⟨hτ,rfl⟩⟩:=h8.out
    ·have hτ2:fPart r.fnd l r.holes (LD (orderL r.fnd r.holes) D) (fuelZ r.fnd) 0 j (startS r.holes)=some τ:=by rw [HOS.out,← HLF.out];exact hτ
     have hat:=HFIT.out.found (startS_no _) (by rw [HOS.out];exact HD.out) HDM.out HTR.out hτ2
     rw [← HAT.out] at hat
     have hbz:Below w.heap.size wr w8:=hk8.toBelow HBI.out.size (fun q e=>by have:=HOWN.out q e;have:=HGG.out;have:=HB1.out;have:=HBW.out.size;omega) (fun q e=>by simp [wyE,Value.ownBlock] at e;have:=HB1.out;have:=HBW.out.size;omega)
     have HX:=Hd (HYES.out w8 vb τ hat (HBI.out.trans hbz) (World.ownsRow.base_mono hi8.b (show w.heap.size≤B1 by have:=HB1.out;have:=HBW.out.size;omega)))
     have c7:w8.cell? ⟨g,7,none⟩=some vb:=hi8.st.now.cells.2.2.2.2.2.2.2.1
     obtain ⟨va,vn,vc,hvb⟩:=owns_slice hi8.b
     have hvb:vb=.slice va vn vc:=hvb
     clear hk8 hi8 hτ h8 CP hbz hat hτ2 HWY HOK HA
     subst hvb
     go_wp2_with fail
     exact HX.out
    ·have hτ2:fPart r.fnd l r.holes (LD (orderL r.fnd r.holes) D) (fuelZ r.fnd) 0 j (startS r.holes)=none:=by rw [HOS.out,← HLF.out];exact hτ
     have HT2:=Hd hτ2
     have HB8:RowKit.Hid (Below gl w4 w8):=Hd ((HB.out.trans (HA.out.below.mono (by have:=HGLR.out;omega))).trans (hk8.toBelow (by have:=HA.out.below.size;have:=HB1.out;have:=HGLR.out;omega) (fun q e=>by have:=HOWN.out q e;have:=HGG.out;have:=HGLR.out;omega) (fun q e=>by simp [wyE,Value.ownBlock] at e;have:=HGLR.out;omega)))
     have HLB8:RowKit.Hid (LensB w8 gl (lensL os D r.holes.length)):=Hd (by
      have h1:=HLB.out.below HA.out.below HGLR.out
      unfold LensB at h1 ⊢
      rw [hk8.block gl (keeps_lt h1) (fun e=>by have:=HOWN.out gl e.symm;have:=HGG.out;have:=HGLR.out;omega) (fun e=>by simp [wyE,Value.ownBlock] at e;have:=HGLR.out;omega)]
      exact h1)
     clear hk8 hτ h8 CP hτ2 HWY HOK HA HBI e0 e1 e2 e3 e4
     have hDl:=HD.out
     go_wp2_with fail
     go_loopw [13] (fun kv wr=>odRel os D most r.holes.length gl w4 kv wr) (fun kv _=>((intOf kv)+1).toNat)
     case atStart=>exact ⟨D.length,Nat.le_refl _,by rw [hDl],fun i h1 h2=>by omega,by rw [zerosL_all];exact HLB8.out,HB8.out⟩
     case round =>
      obtain ⟨m,hm,rfl,hz,hlb,hb⟩:=hrel
      have HZS:=Hd hz
      have HLBm:=Hd hlb
      have HBm:=Hd hb
      have HBWm:RowKit.Hid (Below w.heap.size w wr):=Hd (HB4.out.trans (hb.mono (by have:=HGR.out;omega)))
      clear hz hlb hb
      cases m with
      | zero =>
       have hf:=HFIT.out.failed (startS_no _) (by rw [HOS.out];exact HD.out) HDM.out (od_all fun i hi=>HZS.out i hi (Nat.zero_le _)) HTR.out HT2.out
       have HX:=Hd (HNO.out wr (by rw [HAT.out,hf];rfl) HBWm.out)
       clear hf
       rw [show ((0:Nat):Int)-1=-1 from rfl]
       go_wp2_with fail
       exact HX.out
      | succ m =>
       have hmD:m<D.length:=by omega
       have hmo:m<os.length:=by omega
       obtain ⟨ob,oo,rfl,o0⟩:=HOC.out wr HBm.out m hmo
       have hoh:=HOLT.out _ (List.getElem_mem hmo)
       have hcl:=HLBm.out.cell (i:=os[m]) (by rw [lensL_len];exact hoh)
       rw [lensL_get,LD_at HONL.out (by rw [zerosL_len _ hm];exact HD.out) hmo] at hcl
       have hgt:(zerosL D (m+1))[m]'(by rw [zerosL_len _ hm];exact hmD)=D[m]:=by
        have:=od_get hmD
        rw [List.getElem?_eq_getElem (by rw [zerosL_len _ hm];exact hmD)] at this
        exact Option.some.inj this
       rw [hgt] at hcl
       obtain ⟨c0,z0⟩:=hcl
       have HSET:RowKit.Hid (∀ v:Nat,LensB (wr.setCell ⟨gl,os[m],none⟩ (.int .i64 (v:Int))) gl (lensL os ((zerosL D (m+1)).set m v) r.holes.length)):=Hd fun v=>by
        have:=HLBm.out.set os[m] v
        rw [lensL_set HONL.out (by rw [zerosL_len _ hm];exact HD.out) hmo] at this
        exact this
       have HBS:RowKit.Hid (∀ v,Below gl w4 (wr.setCell ⟨gl,os[m],none⟩ v)):=Hd fun v=>HBm.out.setCell (p:=⟨gl,os[m],none⟩) (Nat.le_refl _) v
       have HNXT:RowKit.Hid (D[m]<most→incrD most D=some ((zerosL D (m+1)).set m (D[m]+1))):=Hd fun h=>od_next hmD HZS.out h
       have HDL:RowKit.Hid (D[m]≤most):=Hd (HDM.out _ (List.getElem_mem hmD))
       have HZN:RowKit.Hid (D[m]=most→∀ i (hi:i<D.length),m≤i→D[i]=most):=Hd fun h i hi hmi=>by
        by_cases e:i=m
        ·subst e;exact h
        ·exact HZS.out i hi (by omega)
       have hkv:(((m+1:Nat):Int)-1)=(m:Int):=by omega
       rw [hkv]
       have hm0:(0:Int)≤(m:Int):=by omega
       have hmoi:(m:Int)<os.length:=by omega
       have hmoc:(m:Int)<(oc:Int):=by omega
       have hwm:IntKind.i64.wrap ((m:Int)-1)=(m:Int)-1:=by rw [IntKind.wrap_i64];omega
       have hohi:((os[m]:Nat):Int)<r.holes.length:=by omega
       have hoh0:(0:Int)≤((os[m]:Nat):Int):=by omega
       have hmn:¬ (m:Int)<0:=by omega
       have hdl:=HDL.out
       have hDM:=HDM.out
       clear hgt
       generalize hdm:D[m]=dm at *
       have HDMM:=Hd hdm
       clear hdm hkv
       generalize os[m]=om at *
       by_cases hge:most≤dm
       ·have hgi:(most:Int)≤(dm:Int):=by omega
        have HX:RowKit.Hid (odRel os D most r.holes.length gl w4 (.int .i64 ((m:Int)-1)) (wr.setCell ⟨gl,om,none⟩ (.int .i64 0))):=Hd ⟨m,by omega,rfl,HZN.out (by omega),by have:=HSET.out 0;rw [od_zero hmD] at this;exact this,HBS.out _⟩
        clear HSET HBS HNXT HZN
        go_wp2_with fail
        refine ⟨?_,(by first | (simp only [intOf];omega) | (simp [intOf];omega))⟩
        first
         | exact HX.out
         | (repeat apply Exists.intro
            refine ⟨?_,rfl⟩
            exact HX.out)
       ·have hgi:¬ (most:Int)≤(dm:Int):=by omega
        have hwd:IntKind.i64.wrap ((dm:Int)+1)=(dm:Int)+1:=by rw [IntKind.wrap_i64];omega
        have hinc:=HNXT.out (by omega)
        have hln:=HSET.out (dm+1)
        rw [show ((dm+1:Nat):Int)=(dm:Int)+1 by push_cast;rfl] at hln
        obtain ⟨_,i2,i3⟩:=incr_some HDM.out hinc
        have HX:RowKit.Hid (raRel r l j most gl w4 (wr.setCell ⟨gl,om,none⟩ (.int .i64 ((dm:Int)+1)))):=Hd ⟨_,by rw [i2,HOS.out];exact HD.out,i3,HTR.out.next (by rw [HOS.out];exact HD.out) HDM.out hinc HT2.out,by rw [HOS.out];exact hln,HBS.out _⟩
        have HMU:RowKit.Hid (raMu os most gl (wr.setCell ⟨gl,om,none⟩ (.int .i64 ((dm:Int)+1)))<raMu os most gl w1):=Hd (raMu_less HLB.out hln HONL.out HOLT.out HD.out HDM.out hinc)
        clear HSET HBS HNXT HZN hinc hln i2 i3
        go_wp2_with fail
        refine ⟨?_,HMU.out⟩
        first
         | exact HX.out
         | (repeat apply Exists.intro
            refine ⟨?_,rfl⟩
            exact HX.out)
end Go.Proofs.YtlkheofphafofaaGreatDoor
