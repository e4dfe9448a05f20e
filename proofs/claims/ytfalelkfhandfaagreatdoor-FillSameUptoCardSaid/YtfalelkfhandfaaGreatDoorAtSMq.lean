/- Layer 17: the search may begin, and what its answer says. -/
import Derived.Test.YtfalelkfhandfaaGreatDoorSeekMMq
import Derived.Test.YtfalelkfhandfaaGreatDoorPackMq
import Derived.Test.YtfalelkfhandfaaGreatDoorRuleCheckMq
import Derived.Test.YtfalelkfhandfaaGreatDoorRulesVMq
import Derived.Test.YtfalelkfhandfaaGreatDoorFindPMq
import Derived.Test.YtfalelkfhandfaaGreatDoorRightWMq
namespace Go.Proofs.YtfalelkfhandfaaGreatDoor
set_option linter.all false
open Go.RowKit

theorem zLz:(Tryz.prog.info? 4).map (fun i=>(i.zero,i.size,i.bytes))=some (some (.bool false),1,1):=by kernel_rfl
theorem zJk (n:Nat) (hn:n≤1000000000) (w:World) :
  (Instr.makeSlice 89 (.int .i64 (n:Int)) (.int .i64 (n:Int))).run Tryz.prog w=.ok (.slice (some ⟨w.heap.size,0,none⟩) n n) (w.alloc (.cells (List.replicate n (Value.bool false)).toArray 4)):=by
 obtain ⟨i,hi,hz,hsz,hb⟩:=info_parts zLz
 have hr:=run_make (P:=Tryz.prog) w 89 4 i (.bool false) Tryz.underlying89 hi hz .i64 .i64 (n:Int) (n:Int) (by omega) (Int.le_refl _) (by rw [hb];omega) (by omega)
 rw [hsz] at hr
 have e:madeCells (Value.bool false).cells ((n:Int).toNat*1)=(List.replicate n (Value.bool false)).toArray:=by
  apply Array.ext'
  rw [Int.toNat_natCast,Nat.mul_one]
  show (madeCells #[.bool false] n).toList=_
  rw [toList_madeCells_one]
 rw [e] at hr
 rw [hr]
 simp only [Int.toNat_natCast]
def atE (r:RuleM) (l:List Prt) (g bm:Nat) (vf vl vfe ve vk vb vz:Value):SkE:=⟨r.fnd,l,r.holes,g,vf,vl,vfe,ve,vk,bm,r.holes.length,vb,vz,g+1⟩
theorem Row.owned {w:World} {B:Nat} {v:Value} {e:TypeId} {size n:Nat} {xs:List Value} (h:w.ownsRow B e size v n xs):Row w v n size xs:=Row.of_owns h
theorem AtW.search {r:RuleM} {l:List Prt} {g bm:Nat} {vf vl vfe ve vk vb:Value} {X:List (Nat×Hl)} {B0:Nat} {w0 W8 W:World} (h:AtW g bm r.holes r.holes r.holes vf vl vfe ve vk vb X B0 w0 W8 W) (hg:g=W8.heap.size)
  (F:zG W8 vf r.fnd) (L:zG W8 vl l) (FE:zK W8 vfe .i64 (endsL r.fnd)) (LE:zK W8 ve .i64 (endsL l)) (M8:MapIs W8 bm 0 (holeM [])) (hf0:0<r.fnd.length) (hl0:0<l.length) (hn:r.holes.length≤1000000) :
  SkIn (atE r l g bm vf vl vfe ve vk vb (.slice (some ⟨W.heap.size,0,none⟩) r.holes.length r.holes.length)) (startS r.holes) ((W.alloc (.cells (List.replicate r.holes.length (Value.bool false)).toArray 4)).setCell ⟨g,7,none⟩ (.slice (some ⟨W.heap.size,0,none⟩) r.holes.length r.holes.length)):=by
 have hl:=h.lt
 have hbs:=h.base
 have h1:=h.alloc (.cells (List.replicate r.holes.length (Value.bool false)).toArray 4)
 generalize hvz:(Value.slice (some ⟨W.heap.size,0,none⟩) r.holes.length r.holes.length)=vz at *
 have hzo:vz.ownBlock=some W.heap.size:=by rw [← hvz];rfl
 have hzr:(W.alloc (.cells (List.replicate r.holes.length (Value.bool false)).toArray 4)).ownsRow (g+1) 4 1 vz r.holes.length (boundV (startS r.holes)):=by
  rw [← hvz,zJj]
  exact ⟨by simp,Or.inr ⟨W.heap.size,r.holes.length,_,rfl,hbs,heap_alloc_new _ _,Nat.le_refl _,by unfold maxLen;omega,by simp,by simp⟩⟩
 have hnk:∀ j,j≤g→some j≠vk.ownBlock:=fun j hj e=>by have:=(h.k.lt j e.symm).1;omega
 have hnb:∀ j,j≤g→some j≠vb.ownBlock:=fun j hj e=>by have:=(h.b.lt j e.symm).1;omega
 have hnz:∀ j,j<W.heap.size→some j≠vz.ownBlock:=fun j hj e=>by rw [hzo] at e;have:=Option.some.inj e;omega
 have hkz:vk.ownBlock=none∨vk.ownBlock≠vz.ownBlock:=by
  cases e:vk.ownBlock with
  | none=>exact Or.inl rfl
  | some q=>exact Or.inr (hnz q (h.k.lt q e).2)
 have hkb:∀ q,vk.ownBlock=some q→some q≠vb.ownBlock:=fun q e e2=>by
  rcases h.k.2 with ⟨hv,_⟩ | ⟨g1,c1,cur1,hv1,_,hh1,_⟩
  ·rw [hv] at e;simp [Value.ownBlock] at e
  ·rcases h.b.2 with ⟨hv,_⟩ | ⟨g2,c2,cur2,hv2,_,hh2,_⟩
   ·rw [hv] at e2;simp [Value.ownBlock] at e2
   ·rw [hv1] at e;rw [hv2] at e2
    simp [Value.ownBlock] at e e2
    subst e;subst e2
    rw [hh1] at hh2
    simp at hh2
 have es:(W.alloc (.cells (List.replicate r.holes.length (Value.bool false)).toArray 4)).heap.size=W.heap.size+1:=by simp
 generalize hWA:W.alloc (.cells (List.replicate r.holes.length (Value.bool false)).toArray 4)=WA at *
 have hWA':∀ j,j<W.heap.size→WA.heap[j]?=W.heap[j]?:=fun j hj=>by rw [← hWA];exact Below.heap_alloc _ _ _ hj
 have hset:∀ j,j≠g→(WA.setCell ⟨g,7,none⟩ vz).heap[j]?=WA.heap[j]?:=fun j hj=>heap_setCell_other _ _ _ _ hj
 have hss:(WA.setCell ⟨g,7,none⟩ vz).heap.size=WA.heap.size:=by simp
 have hcell:=heap_setCell_same WA g 7 _ _ vz h1.s
 generalize WA.setCell ⟨g,7,none⟩ vz=WF at *
 have own2:∀ {e:TypeId} {sz n:Nat} {v:Value} {xs:List Value},WA.ownsRow (g+1) e sz v n xs→WF.ownsRow (g+1) e sz v n xs:=fun {e sz n v xs} ho=>by
  refine ⟨ho.1,?_⟩
  rcases ho.2 with h2 | ⟨q,cap,cur,hv,hq,hh,rest⟩
  ·exact Or.inl h2
  ·exact Or.inr ⟨q,cap,cur,hv,hq,by rw [hset q (by omega)];exact hh,rest⟩
 have hold:∀ j,j<g→j≠bm→WF.heap[j]?=W8.heap[j]?:=fun j h1 h2=>by rw [hset j (by omega),hWA' j (by omega)];exact h.old j h1 h2
 have hrow:∀ {v:Value} {n sz:Nat} {cs:List Value} {w':World},Row W8 v n sz cs→0<n→0<sz→KeptX (atE r l g bm vf vl vfe ve vk vb vz) WF w'→Row w' v n sz cs:=fun {v n sz cs w'} hr hn hs hk=>by
  refine Row.same hr fun q hq hlt=>?_
  have hne:=Row.no_map hr hn hs M8 q hq
  have hqs:q<WF.heap.size:=by omega
  exact ⟨Nat.lt_of_lt_of_le hqs hk.size,by rw [hk.block q hqs (hnb q (by omega)) (hnz q (by omega)),hold q (by omega) hne]⟩
 refine ⟨fun w' hk=>⟨?_,hrow F hf0 (by decide) hk,hrow L hl0 (by decide) hk,hrow FE (by rw [zN];exact hf0) (by decide) hk,hrow LE (by rw [zN];exact hl0) (by decide) hk,?_,?_⟩,?_,own2 hzr,by unfold startS;simp [atE],fun k q hq=>absurd hq (zCa _ _ _)⟩
 ·have:=hk.block g (by omega) (hnb g (Nat.le_refl _)) (hnz g (by omega))
  show w'.heap[g]?=_
  rw [this,hcell]
  rfl
 ·refine h.m.same ?_
  rw [hk.block bm (by omega) (hnb bm (by omega)) (hnz bm (by omega)),hset bm (by omega),hWA' bm (by omega)]
 ·have hr0:Row WF vk r.holes.length 1 (kindsV r.holes):=Row.owned (own2 h1.k)
  have hr1:zK WF vk .u8 (kindsI r.holes):=by
   have e:(kindsI r.holes).length=r.holes.length:=by unfold kindsI;simp
   unfold zK
   rw [e];exact hr0
  refine Row.same hr1 fun q hq hlt=>⟨Nat.lt_of_lt_of_le hlt hk.size,hk.block q hlt (hkb q hq) ?_⟩
  have hq':vk.ownBlock=some q:=hq
  show some q≠vz.ownBlock
  rcases hkz with e | e
  ·rw [hq'] at e;cases e
  ·rw [← hq'];exact e
 ·have:=own2 h1.b
  show WF.ownsRow (g+1) 52 3 vb r.holes.length (bindsV (bindsOf r.holes (startS r.holes)))
  rw [zCg]
  exact this
theorem AtW.ok {r:RuleM} {l:List Prt} {g bm:Nat} {vf vl vfe ve vk vb:Value} {X:List (Nat×Hl)} {B0:Nat} {w0 W8 W:World} (h:AtW g bm r.holes r.holes r.holes vf vl vfe ve vk vb X B0 w0 W8 W) (hr:ruleZ r=0) (hs:SmallR r) (hl:zZ l=true) (sl:SmallL l) (c:Nat) :
  SkOK (atE r l g bm vf vl vfe ve vk vb (.slice (some ⟨W.heap.size,0,none⟩) r.holes.length c)):=by
 have hbs:=h.base
 refine ⟨(xQ hr).1,hl,hs.f.1,sl.1,hs.h.1,fun x hx=>⟨(hs.h.2 x hx).2,(hs.h.2 x hx).1⟩,hs.f,sl,?_,fun e=>?_,fun e=>?_⟩
 ·cases e:vb.ownBlock with
  | none=>exact Or.inl e
  | some q =>
   refine Or.inr fun e2=>?_
   have h1:=(h.b.lt q e).2
   have e3:some q=some W.heap.size:=by rw [← e];exact e2
   have:=Option.some.inj e3
   omega
 ·have:=(h.b.lt g e.symm).1;omega
 ·have e3:some g=some W.heap.size:=e
  have:=Option.some.inj e3;omega
@[irreducible] def atPost (r:RuleM) (o:Option MSt) (w0:World) (e:Ending) (w':World):Prop :=
 Below w0.heap.size w0 w'∧match o with
  | some τ=>∃ vb,e=.returned (.tuple #[vb,.bool true])∧w'.ownsRow w0.heap.size 52 3 vb r.holes.length (bindsV (bindsOf r.holes τ))
  | none=>e=.returned (.tuple #[.slice none 0 0,.bool false])
theorem KeptX.toBelow {E:SkE} {w w':World} {B:Nat} (h:KeptX E w w') (hB:B≤w.heap.size) (h1:∀ q,E.vb.ownBlock=some q→B≤q) (h2:∀ q,E.vz.ownBlock=some q→B≤q):Below B w w' :=
 ⟨h.os,h.tape,h.output,h.size,fun k hk=>h.block k (by omega) (fun e=>by have:=h1 k e.symm;omega) (fun e=>by have:=h2 k e.symm;omega)⟩
end Go.Proofs.YtfalelkfhandfaaGreatDoor
namespace Go.Proofs.YtfalelkfhandfaaGreatDoor
set_option maxRecDepth 100000
set_option maxHeartbeats 32000000
set_option linter.all false
attribute [local irreducible] Calls
open Go.RowKit

def lcRel (rs:List RuleX) (w0:World) (iv:Value) (wr:World):Prop:=∃ k:Nat,iv=.int .i64 (k:Int)∧k≤rs.length∧yX (rs.map (·.1))=yX ((rs.drop k).map (·.1))∧Below w0.heap.size w0 wr
theorem zMl (rs:List RuleX) (hs:∀ x∈rs,SmallR x.1) (l:List Prt) (hl:l.length≤1048576) (vr vl:Value) (w:World) (hT:Tabs w) (hM:MaxC w) (hr:yY w vr rs) (hlr:zG w vl l) :
  Calls Tryz.prog 17 #[vr,vl] w fun e w'=>e=.returned (.int .i64 (yB (rs.map (·.1)) l))∧Below w.heap.size w w':=by
 have HQ:Hid (∀ x w',yB (rs.map (·.1)) l=x→Below w.heap.size w w'→(fun (e:Ending) w'=>e=.returned (.int .i64 (yB (rs.map (·.1)) l))∧Below w.heap.size w w') (.returned (.int .i64 x)) w'):=Hd fun x w' h hb=>⟨by rw [h],hb⟩
 generalize (fun (e:Ending) w'=>e=.returned (.int .i64 (yB (rs.map (·.1)) l))∧Below w.heap.size w w')=Q at *
 have HF:Hid (yB (rs.map (·.1)) l=if zZ l=false then 8 else if 32<rs.length then 14 else yX (rs.map (·.1))):=Hd (by unfold yB;rw [List.length_map])
 obtain ⟨ar,cr,rfl,hcr⟩:=hr.shape
 obtain ⟨al,cl,rfl,hcl⟩:=hlr.slice
 have CW:=Hd (jR l (by omega) _ w hlr)
 have HS:=Hd hs
 have HR:=Hd hr
 have HT:=Hd hT
 have HMX:=Hd hM
 clear hr hlr hs hT hM
 go_enter Tryz.func17,Tryz.ntmps17
 go_wp2_with fail
 refine CW.out.mono ?_
 rintro e W1 ⟨rfl,hb1⟩
 have HB1:=Hd hb1
 clear hb1 CW
 cases hw:zZ l with
 | false =>
  have HX:=Hd (HQ.out 8 W1 (by rw [HF.out,hw];rfl) HB1.out)
  clear hw
  go_wp2_with fail
  exact HX.out
 | true =>
 have HW:=Hd hw
 clear hw
 by_cases h32:32<rs.length
 ·have HX:=Hd (HQ.out 14 W1 (by rw [HF.out,HW.out,if_neg (by simp),if_pos h32]) HB1.out)
  have g1:(32:Int)<rs.length:=by omega
  go_wp2_with fail
  exact HX.out
 have HFE:Hid (yB (rs.map (·.1)) l=yX (rs.map (·.1))):=Hd (by rw [HF.out,HW.out,if_neg (by simp),if_neg h32])
 have h32':(rs.length:Int)≤32:=by omega
 clear h32
 go_wp2_with fail
 go_loopw [18] (fun iv wr=>lcRel rs W1 iv wr) (fun iv _=>rs.length-(intOf iv).toNat)
 case atStart=>exact ⟨0,rfl,Nat.zero_le _,rfl,Below.refl _ _⟩
 case round =>
  obtain ⟨k,rfl,hk,hfe,hb⟩:=hrel
  have HB:=Hd hb
  have HE:=Hd hfe
  clear hb hfe
  by_cases hlt:k<rs.length
  ·obtain ⟨b,off,rfl,_,_,hbl,hcell⟩:=HR.out.at (zB HB1.out HB.out) (show 0<rs.length by omega)
   obtain ⟨d0,d1,d2,d3,d4⟩:=hcell k hlt
   have hin:=HR.out.E _ (List.getElem_mem hlt)
   have hsm:=HS.out _ (List.getElem_mem hlt)
   have HE2:Hid (yX (rs.map (·.1))=if ruleZ (rs[k]).1=0 then yX ((rs.drop (k+1)).map (·.1)) else ruleZ (rs[k]).1):=Hd (by
    rw [HE.out,List.drop_eq_getElem_cons hlt,List.map_cons,yX])
   generalize rs[k]=x at *
   obtain ⟨r,vh,vf,vb⟩:=x
   simp only [] at d0 d1 d2 d3 d4 hin hsm HE2
   obtain ⟨ah,ch,rfl,hch⟩:=Row.shape hin.H
   obtain ⟨af,cf,rfl,hcf⟩:=hin.F.slice
   obtain ⟨ab,cb,rfl,hcb⟩:=hin.B.slice
   have HBA:Hid (Below W1.heap.size W1 (wr.alloc (.cells #[.string r.nm,.int .u8 (r.goal:Int),.slice ah r.holes.length ch,.slice af r.fnd.length cf,.slice ab r.by'.length cb] 36))):=Hd (HB.out.alloc HB.out.size _)
   have CR:=Hd (zAo r hsm _ _ _ _ (HT.out.below (zB HB1.out HBA.out)) (HMX.out.below (zB HB1.out HBA.out)) (hin.below (zB HB1.out HBA.out)))
   unfold ruleAgg at CR
   clear hcell hin hsm
   go_wp2_with fail
   refine CR.out.mono ?_
   rintro e W3 ⟨rfl,hb3⟩
   have HB3:=Hd (zB HBA.out hb3)
   clear hb3 CR HBA d0 d1 d2 d3 d4
   by_cases hz:ruleZ r=0
   ·have HX:Hid (lcRel rs W1 (.int .i64 ((k:Int)+1)) W3):=Hd ⟨k+1,by push_cast;rfl,hlt,by rw [HE2.out,if_pos hz],HB3.out⟩
    rw [hz]
    clear hz
    go_wp2_with fail
    case roundEnd=>exact ⟨HX.out,by simp only [intOf];omega⟩
   ·have HX:=Hd (HQ.out (ruleZ r) W3 (by rw [HFE.out,HE2.out,if_neg hz]) (zB HB1.out HB3.out))
    have g1:(ruleZ r != 0)=true:=by rw [bne_iff_ne];exact hz
    have g2:(ruleZ r == 0)=false:=by rw [beq_eq_false_iff_ne];exact hz
    clear hz
    generalize ruleZ r=z at *
    go_wp2_with fail
    exact HX.out
  ·obtain rfl:k=rs.length:=by omega
   have HX:=Hd (HQ.out 0 wr (by rw [HFE.out,HE.out,List.drop_length];rfl) (zB HB1.out HB.out))
   go_wp2_with fail
   exact HX.out
end Go.Proofs.YtfalelkfhandfaaGreatDoor
namespace Go.Proofs.YtfalelkfhandfaaGreatDoor
set_option maxRecDepth 100000
set_option maxHeartbeats 32000000
set_option linter.all false
attribute [local irreducible] Calls
open Go.RowKit

def grRel (n:Nat) (W0:World) (nv iv:Value) (wr:World):Prop:=∃ (k:Nat) (z:Int),iv=.int .i64 (k:Int)∧nv=.int .i64 z∧k≤n∧Below W0.heap.size W0 wr
theorem zQl (rs:List RuleX) (hs:∀ x∈rs,SmallR x.1) (hn:rs.length≤1048576) (vr:Value) (most:Int) (w:World) (hr:yY w vr rs) :
  Calls Tryz.prog 14 #[vr,.int .i64 most] w (AnyBool w):=by
 obtain ⟨ar,cr,rfl,hcr⟩:=hr.shape
 have HQ:Hid (∀ z w',Below w.heap.size w w'→AnyBool w (.returned (.bool z)) w'):=Hd fun z w' hb=>AnyBool.mk z hb
 generalize AnyBool w=Q at *
 have HS:=Hd hs
 have HR:=Hd hr
 clear hr hs
 go_enter Tryz.func14,Tryz.ntmps14
 go_wp2_with fail
 go_loopw [5,6] (fun nv iv wr=>grRel rs.length w nv iv wr) (fun _ iv _=>rs.length-(intOf iv).toNat)
 case atStart=>exact ⟨0,0,rfl,rfl,Nat.zero_le _,Below.refl _ _⟩
 case round =>
  obtain ⟨k,z,rfl,rfl,hk,hb⟩:=hrel
  have HB:=Hd hb
  clear hb
  by_cases hlt:k<rs.length
  case neg =>
   obtain rfl:k=rs.length:=by omega
   have HX:=Hd (fun x=>HQ.out x wr HB.out)
   go_wp2_with fail
   exact HX.out _
  by_cases hz:z≤most
  case neg =>
   have hkl:(k:Int)<rs.length:=by omega
   have HX:=Hd (fun x=>HQ.out x wr HB.out)
   go_wp2_with fail
   exact HX.out _
  have hk0:(0:Int)≤(k:Int):=by omega
  have hkl:(k:Int)<rs.length:=by omega
  have hkc:(k:Int)<cr:=by omega
  have hin:=HR.out.E _ (List.getElem_mem hlt)
  have hsm:=HS.out _ (List.getElem_mem hlt)
  obtain ⟨b,off,rfl,_,_,hbl,hcell⟩:=HR.out.at HB.out (show 0<rs.length by omega)
  have hc:=hcell k hlt
  have HC:Hid (∀ W,Below w.heap.size w W→W.cell? ⟨b,off+k*5,none⟩=some (.string (rs[k]).1.nm)∧W.cell? ⟨b,off+k*5+2,none⟩=some (rs[k]).2.1∧W.cell? ⟨b,off+k*5+3,none⟩=some (rs[k]).2.2.1∧W.cell? ⟨b,off+k*5+4,none⟩=some (rs[k]).2.2.2):=Hd fun W hW=>by
   obtain ⟨b',off',e,_,_,_,hc2⟩:=HR.out.at hW (show 0<rs.length by omega)
   cases e
   obtain ⟨c0,_,c2,c3,c4⟩:=hc2 k hlt
   exact ⟨c0,c2,c3,c4⟩
  clear hcell hc
  generalize rs[k]=x at *
  obtain ⟨r,vh,vf,vb⟩:=x
  simp only [] at hin hsm HC
  obtain ⟨ah,ch,rfl,hch⟩:=Row.shape hin.H
  obtain ⟨af,cf,rfl,hcf⟩:=hin.F.slice
  obtain ⟨ab,cb,rfl,hcb⟩:=hin.B.slice
  have HIN:=Hd hin
  have HSM:=Hd hsm
  have hlh:=hsm.h.1
  have hlf:=hsm.f.1
  have hlb:=hsm.b.1
  have hln:=hsm.n
  clear hin hsm
  obtain ⟨c0,c2,c3,c4⟩:=HC.out _ HB.out
  go_upto_region 5 with (fail)
  go_quiet (fail)
  have HB1:=Hd (drewB HB.out nq)
  clear c0 c2 c3 c4
  generalize wr.drewN nq=w1 at *
  go_wp2_with fail
  go_loopw [5,7] (fun nv iv wr=>grRel r.holes.length w nv iv wr) (fun _ iv _=>r.holes.length-(intOf iv).toNat)
  case atStart=>exact ⟨0,_,rfl,rfl,Nat.zero_le _,HB1.out⟩
  case round =>
   obtain ⟨j1,z1,rfl,rfl,hj1,hb1⟩:=hrel
   have HBX:=Hd hb1
   clear hb1
   obtain ⟨c0,c2,c3,c4⟩:=HC.out _ HBX.out
   by_cases hlt1:j1<r.holes.length
   ·by_cases hzz:z1≤most
    ·have hq0:(0:Int)≤(j1:Int):=by omega
     have hql:(j1:Int)<r.holes.length:=by omega
     have hqc:(j1:Int)<ch:=by omega
     obtain ⟨b1,o1,rfl,_,_,_,hcc⟩:=HIN.out.H.at HBX.out (show 0<r.holes.length by omega)
     have hd:=hcc j1 hlt1
     have hsz:=HSM.out.h.2 _ (List.getElem_mem hlt1)
     generalize (r.holes[j1])=y at *
     obtain ⟨yn,yk⟩:=y
     simp only [] at hd hsz
     obtain ⟨d0,d1⟩:=hd
     obtain ⟨s0,s1⟩:=hsz
     clear hcc
     go_wp2_with fail
     all_goals exact ⟨⟨j1+1,_,by push_cast;rfl,rfl,hlt1,HBX.out⟩,by simp only [intOf];omega⟩
    ·have hql:(j1:Int)<r.holes.length:=by omega
     go_wp2_with fail
     go_loopw [5,8] (fun nv iv wr=>grRel r.fnd.length w nv iv wr) (fun _ iv _=>r.fnd.length-(intOf iv).toNat)
     case atStart=>exact ⟨0,_,rfl,rfl,Nat.zero_le _,HBX.out⟩
     case round =>
      obtain ⟨j2,z2,rfl,rfl,hj2,hb2⟩:=hrel
      have HBX:=Hd hb2
      clear hb2
      obtain ⟨c0,c2,c3,c4⟩:=HC.out _ HBX.out
      by_cases hlt2:j2<r.fnd.length
      ·by_cases hzz:z2≤most
       ·have hq0:(0:Int)≤(j2:Int):=by omega
        have hql:(j2:Int)<r.fnd.length:=by omega
        have hqc:(j2:Int)<cf:=by omega
        obtain ⟨b2,o2,rfl,_,_,_,hcc⟩:=HIN.out.F.at HBX.out (show 0<r.fnd.length by omega)
        have hd:=hcc j2 hlt2
        have hsz:=HSM.out.f.2 _ (List.getElem_mem hlt2)
        generalize (r.fnd[j2])=y at *
        obtain ⟨yk,yn,yw⟩:=y
        simp only [] at hd hsz
        obtain ⟨d0,d1,d2⟩:=hd
        obtain ⟨s0,s1⟩:=hsz
        clear hcc
        go_wp2_with fail
        all_goals exact ⟨⟨j2+1,_,by push_cast;rfl,rfl,hlt2,HBX.out⟩,by simp only [intOf];omega⟩
       ·have hql:(j2:Int)<r.fnd.length:=by omega
        go_wp2_with fail
        go_loopw [5,9] (fun nv iv wr=>grRel r.by'.length w nv iv wr) (fun _ iv _=>r.by'.length-(intOf iv).toNat)
        case atStart=>exact ⟨0,_,rfl,rfl,Nat.zero_le _,HBX.out⟩
        case round =>
         obtain ⟨j3,z3,rfl,rfl,hj3,hb3⟩:=hrel
         have HBX:=Hd hb3
         clear hb3
         obtain ⟨c0,c2,c3,c4⟩:=HC.out _ HBX.out
         by_cases hlt3:j3<r.by'.length
         ·by_cases hzz:z3≤most
          ·have hq0:(0:Int)≤(j3:Int):=by omega
           have hql:(j3:Int)<r.by'.length:=by omega
           have hqc:(j3:Int)<cb:=by omega
           obtain ⟨b3,o3,rfl,_,_,_,hcc⟩:=HIN.out.B.at HBX.out (show 0<r.by'.length by omega)
           have hd:=hcc j3 hlt3
           have hsz:=HSM.out.b.2 _ (List.getElem_mem hlt3)
           generalize (r.by'[j3])=y at *
           obtain ⟨yk,yn,yw⟩:=y
           simp only [] at hd hsz
           obtain ⟨d0,d1,d2⟩:=hd
           obtain ⟨s0,s1⟩:=hsz
           clear hcc
           go_wp2_with fail
           all_goals exact ⟨⟨j3+1,_,by push_cast;rfl,rfl,hlt3,HBX.out⟩,by simp only [intOf];omega⟩
          ·have hql:(j3:Int)<r.by'.length:=by omega
           go_wp2_with fail
           exact ⟨⟨k+1,_,by push_cast;rfl,rfl,hlt,HBX.out⟩,by simp only [intOf];omega⟩
         ·obtain rfl:j3=r.by'.length:=by omega
          go_wp2_with fail
          exact ⟨⟨k+1,_,by push_cast;rfl,rfl,hlt,HBX.out⟩,by simp only [intOf];omega⟩
      ·obtain rfl:j2=r.fnd.length:=by omega
       go_wp2_with fail
       go_loopw [5,9] (fun nv iv wr=>grRel r.by'.length w nv iv wr) (fun _ iv _=>r.by'.length-(intOf iv).toNat)
       case atStart=>exact ⟨0,_,rfl,rfl,Nat.zero_le _,HBX.out⟩
       case round =>
        obtain ⟨j3,z3,rfl,rfl,hj3,hb3⟩:=hrel
        have HBX:=Hd hb3
        clear hb3
        obtain ⟨c0,c2,c3,c4⟩:=HC.out _ HBX.out
        by_cases hlt3:j3<r.by'.length
        ·by_cases hzz:z3≤most
         ·have hq0:(0:Int)≤(j3:Int):=by omega
          have hql:(j3:Int)<r.by'.length:=by omega
          have hqc:(j3:Int)<cb:=by omega
          obtain ⟨b3,o3,rfl,_,_,_,hcc⟩:=HIN.out.B.at HBX.out (show 0<r.by'.length by omega)
          have hd:=hcc j3 hlt3
          have hsz:=HSM.out.b.2 _ (List.getElem_mem hlt3)
          generalize (r.by'[j3])=y at *
          obtain ⟨yk,yn,yw⟩:=y
          simp only [] at hd hsz
          obtain ⟨d0,d1,d2⟩:=hd
          obtain ⟨s0,s1⟩:=hsz
          clear hcc
          go_wp2_with fail
          all_goals exact ⟨⟨j3+1,_,by push_cast;rfl,rfl,hlt3,HBX.out⟩,by simp only [intOf];omega⟩
         ·have hql:(j3:Int)<r.by'.length:=by omega
          go_wp2_with fail
          exact ⟨⟨k+1,_,by push_cast;rfl,rfl,hlt,HBX.out⟩,by simp only [intOf];omega⟩
        ·obtain rfl:j3=r.by'.length:=by omega
         go_wp2_with fail
         exact ⟨⟨k+1,_,by push_cast;rfl,rfl,hlt,HBX.out⟩,by simp only [intOf];omega⟩
   ·obtain rfl:j1=r.holes.length:=by omega
    go_wp2_with fail
    go_loopw [5,8] (fun nv iv wr=>grRel r.fnd.length w nv iv wr) (fun _ iv _=>r.fnd.length-(intOf iv).toNat)
    case atStart=>exact ⟨0,_,rfl,rfl,Nat.zero_le _,HBX.out⟩
    case round =>
     obtain ⟨j2,z2,rfl,rfl,hj2,hb2⟩:=hrel
     have HBX:=Hd hb2
     clear hb2
     obtain ⟨c0,c2,c3,c4⟩:=HC.out _ HBX.out
     by_cases hlt2:j2<r.fnd.length
     ·by_cases hzz:z2≤most
      ·have hq0:(0:Int)≤(j2:Int):=by omega
       have hql:(j2:Int)<r.fnd.length:=by omega
       have hqc:(j2:Int)<cf:=by omega
       obtain ⟨b2,o2,rfl,_,_,_,hcc⟩:=HIN.out.F.at HBX.out (show 0<r.fnd.length by omega)
       have hd:=hcc j2 hlt2
       have hsz:=HSM.out.f.2 _ (List.getElem_mem hlt2)
       generalize (r.fnd[j2])=y at *
       obtain ⟨yk,yn,yw⟩:=y
       simp only [] at hd hsz
       obtain ⟨d0,d1,d2⟩:=hd
       obtain ⟨s0,s1⟩:=hsz
       clear hcc
       go_wp2_with fail
       all_goals exact ⟨⟨j2+1,_,by push_cast;rfl,rfl,hlt2,HBX.out⟩,by simp only [intOf];omega⟩
      ·have hql:(j2:Int)<r.fnd.length:=by omega
       go_wp2_with fail
       go_loopw [5,9] (fun nv iv wr=>grRel r.by'.length w nv iv wr) (fun _ iv _=>r.by'.length-(intOf iv).toNat)
       case atStart=>exact ⟨0,_,rfl,rfl,Nat.zero_le _,HBX.out⟩
       case round =>
        obtain ⟨j3,z3,rfl,rfl,hj3,hb3⟩:=hrel
        have HBX:=Hd hb3
        clear hb3
        obtain ⟨c0,c2,c3,c4⟩:=HC.out _ HBX.out
        by_cases hlt3:j3<r.by'.length
        ·by_cases hzz:z3≤most
         ·have hq0:(0:Int)≤(j3:Int):=by omega
          have hql:(j3:Int)<r.by'.length:=by omega
          have hqc:(j3:Int)<cb:=by omega
          obtain ⟨b3,o3,rfl,_,_,_,hcc⟩:=HIN.out.B.at HBX.out (show 0<r.by'.length by omega)
          have hd:=hcc j3 hlt3
          have hsz:=HSM.out.b.2 _ (List.getElem_mem hlt3)
          generalize (r.by'[j3])=y at *
          obtain ⟨yk,yn,yw⟩:=y
          simp only [] at hd hsz
          obtain ⟨d0,d1,d2⟩:=hd
          obtain ⟨s0,s1⟩:=hsz
          clear hcc
          go_wp2_with fail
          all_goals exact ⟨⟨j3+1,_,by push_cast;rfl,rfl,hlt3,HBX.out⟩,by simp only [intOf];omega⟩
         ·have hql:(j3:Int)<r.by'.length:=by omega
          go_wp2_with fail
          exact ⟨⟨k+1,_,by push_cast;rfl,rfl,hlt,HBX.out⟩,by simp only [intOf];omega⟩
        ·obtain rfl:j3=r.by'.length:=by omega
         go_wp2_with fail
         exact ⟨⟨k+1,_,by push_cast;rfl,rfl,hlt,HBX.out⟩,by simp only [intOf];omega⟩
     ·obtain rfl:j2=r.fnd.length:=by omega
      go_wp2_with fail
      go_loopw [5,9] (fun nv iv wr=>grRel r.by'.length w nv iv wr) (fun _ iv _=>r.by'.length-(intOf iv).toNat)
      case atStart=>exact ⟨0,_,rfl,rfl,Nat.zero_le _,HBX.out⟩
      case round =>
       obtain ⟨j3,z3,rfl,rfl,hj3,hb3⟩:=hrel
       have HBX:=Hd hb3
       clear hb3
       obtain ⟨c0,c2,c3,c4⟩:=HC.out _ HBX.out
       by_cases hlt3:j3<r.by'.length
       ·by_cases hzz:z3≤most
        ·have hq0:(0:Int)≤(j3:Int):=by omega
         have hql:(j3:Int)<r.by'.length:=by omega
         have hqc:(j3:Int)<cb:=by omega
         obtain ⟨b3,o3,rfl,_,_,_,hcc⟩:=HIN.out.B.at HBX.out (show 0<r.by'.length by omega)
         have hd:=hcc j3 hlt3
         have hsz:=HSM.out.b.2 _ (List.getElem_mem hlt3)
         generalize (r.by'[j3])=y at *
         obtain ⟨yk,yn,yw⟩:=y
         simp only [] at hd hsz
         obtain ⟨d0,d1,d2⟩:=hd
         obtain ⟨s0,s1⟩:=hsz
         clear hcc
         go_wp2_with fail
         all_goals exact ⟨⟨j3+1,_,by push_cast;rfl,rfl,hlt3,HBX.out⟩,by simp only [intOf];omega⟩
        ·have hql:(j3:Int)<r.by'.length:=by omega
         go_wp2_with fail
         exact ⟨⟨k+1,_,by push_cast;rfl,rfl,hlt,HBX.out⟩,by simp only [intOf];omega⟩
       ·obtain rfl:j3=r.by'.length:=by omega
        go_wp2_with fail
        exact ⟨⟨k+1,_,by push_cast;rfl,rfl,hlt,HBX.out⟩,by simp only [intOf];omega⟩
end Go.Proofs.YtfalelkfhandfaaGreatDoor
