/- Layer 17: the search may begin, and what its answer says. -/
import Derived.Test.YtlkheofphafofaaGreatDoorSeekPMc
import Derived.Test.YtlkheofphafofaaGreatDoorTermSameMc
import Derived.Test.YtlkheofphafofaaGreatDoorRuleVMc
import Derived.Test.YtlkheofphafofaaGreatDoorSeekGMc
import Derived.Test.YtlkheofphafofaaGreatDoorRuleCheckMc
import Derived.BigQuiet
import Derived.Deep.QuietTactic
namespace Go.Proofs.YtlkheofphafofaaGreatDoor
set_option linter.all false
open Go.RowKit

theorem Tinfo_bool:(Tryz.prog.info? 4).map (fun i=>(i.zero,i.size,i.bytes))=some (some (.bool false),1,1):=by kernel_rfl
theorem Tmake_bools (n:Nat) (hn:n≤1000000000) (w:World) :
  (Instr.makeSlice 71 (.int .i64 (n:Int)) (.int .i64 (n:Int))).run Tryz.prog w=.ok (.slice (some ⟨w.heap.size,0,none⟩) n n) (w.alloc (.cells (List.replicate n (Value.bool false)).toArray 4)):=by
 obtain ⟨i,hi,hz,hsz,hb⟩:=info_parts Tinfo_bool
 have hr:=run_make (P:=Tryz.prog) w 71 4 i (.bool false) Tryz.underlying71 hi hz .i64 .i64 (n:Int) (n:Int) (by omega) (Int.le_refl _) (by rw [hb];omega) (by omega)
 rw [hsz] at hr
 have e:madeCells (Value.bool false).cells ((n:Int).toNat*1)=(List.replicate n (Value.bool false)).toArray:=by
  apply Array.ext'
  rw [Int.toNat_natCast,Nat.mul_one]
  show (madeCells #[.bool false] n).toList=_
  rw [toList_madeCells_one]
 rw [e] at hr
 rw [hr]
 simp only [Int.toNat_natCast]
def atE (r:RuleM) (l:List Prt) (g bm:Nat) (vf vl vfe ve vk vb vz:Value):SkE:=⟨r.fnd,l,r.holes,g,vf,vl,vfe,ve,vk,bm,r.holes.length,vb,vz,g+1⟩
theorem Row.owned {w:World} {B:Nat} {v:Value} {e:TypeId} {size n:Nat} {xs:List Value} (h:w.ownsRow B e size v n xs):Row w v n size xs:=Row.of_owns h
theorem AtW.search {r:RuleM} {l:List Prt} {g bm:Nat} {vf vl vfe ve vk vb:Value} {X:List (Nat×Hl)} {B0:Nat} {w0 W8 W:World} (h:AtW g bm r.holes r.holes r.holes vf vl vfe ve vk vb X B0 w0 W8 W) (hg:g=W8.heap.size)
  (F:PartRow W8 vf r.fnd) (L:PartRow W8 vl l) (FE:RowInts W8 vfe .i64 (endsL r.fnd)) (LE:RowInts W8 ve .i64 (endsL l)) (M8:MapIs W8 bm 0 (holeM [])) (hf0:0<r.fnd.length) (hl0:0<l.length) (hn:r.holes.length≤1000000) :
  SkIn (atE r l g bm vf vl vfe ve vk vb (.slice (some ⟨W.heap.size,0,none⟩) r.holes.length r.holes.length)) (startS r.holes) ((W.alloc (.cells (List.replicate r.holes.length (Value.bool false)).toArray 4)).setCell ⟨g,7,none⟩ (.slice (some ⟨W.heap.size,0,none⟩) r.holes.length r.holes.length)):=by
 have hl:=h.lt
 have hbs:=h.base
 have h1:=h.alloc (.cells (List.replicate r.holes.length (Value.bool false)).toArray 4)
 generalize hvz:(Value.slice (some ⟨W.heap.size,0,none⟩) r.holes.length r.holes.length)=vz at *
 have hzo:vz.ownBlock=some W.heap.size:=by rw [← hvz];rfl
 have hzr:(W.alloc (.cells (List.replicate r.holes.length (Value.bool false)).toArray 4)).ownsRow (g+1) 4 1 vz r.holes.length (boundV (startS r.holes)):=by
  rw [← hvz,bound_start]
  exact ⟨by simp,Or.inr ⟨W.heap.size,r.holes.length,_,rfl,hbs,heap_alloc_new _ _,Nat.le_refl _,by unfold maxLen;omega,by simp,by simp⟩⟩
 have hnk:∀ j,j≤g→some j≠vk.ownBlock:=fun j hj e=>by have:=(h.k.lt j e.symm).1;omega
 have hnb:∀ j,j≤g→some j≠vb.ownBlock:=fun j hj e=>by have:=(h.b.lt j e.symm).1;omega
 have hnz:∀ j,j<W.heap.size→some j≠vz.ownBlock:=fun j hj e=>by rw [hzo] at e;have:=Option.some.inj e;omega
 have hkz:vk.ownBlock=none∨vk.ownBlock≠vz.ownBlock:=by
  cases e:vk.ownBlock with
  | none=>exact Or.inl rfl
  | some q=>exact Or.inr (hnz q (h.k.lt q e).2)
 have hkb:∀ q,vk.ownBlock=some q→some q≠vb.ownBlock:=fun q e e2=>by
  rcases h.k.2 with ⟨hv,_⟩ | ⟨g1,c1,cur1,hv1,_,hh1,_⟩
  ·rw [hv] at e;simp [Value.ownBlock] at e
  ·rcases h.b.2 with ⟨hv,_⟩ | ⟨g2,c2,cur2,hv2,_,hh2,_⟩
   ·rw [hv] at e2;simp [Value.ownBlock] at e2
   ·rw [hv1] at e;rw [hv2] at e2
    simp [Value.ownBlock] at e e2
    subst e;subst e2
    rw [hh1] at hh2
    simp at hh2
 have es:(W.alloc (.cells (List.replicate r.holes.length (Value.bool false)).toArray 4)).heap.size=W.heap.size+1:=by simp
 generalize hWA:W.alloc (.cells (List.replicate r.holes.length (Value.bool false)).toArray 4)=WA at *
 have hWA':∀ j,j<W.heap.size→WA.heap[j]?=W.heap[j]?:=fun j hj=>by rw [← hWA];exact Below.heap_alloc _ _ _ hj
 have hset:∀ j,j≠g→(WA.setCell ⟨g,7,none⟩ vz).heap[j]?=WA.heap[j]?:=fun j hj=>heap_setCell_other _ _ _ _ hj
 have hss:(WA.setCell ⟨g,7,none⟩ vz).heap.size=WA.heap.size:=by simp
 have hcell:=heap_setCell_same WA g 7 _ _ vz h1.s
 generalize WA.setCell ⟨g,7,none⟩ vz=WF at *
 have own2:∀ {e:TypeId} {sz n:Nat} {v:Value} {xs:List Value},WA.ownsRow (g+1) e sz v n xs→WF.ownsRow (g+1) e sz v n xs:=fun {e sz n v xs} ho=>by
  refine ⟨ho.1,?_⟩
  rcases ho.2 with h2 | ⟨q,cap,cur,hv,hq,hh,rest⟩
  ·exact Or.inl h2
  ·exact Or.inr ⟨q,cap,cur,hv,hq,by rw [hset q (by omega)];exact hh,rest⟩
 have hold:∀ j,j<g→j≠bm→WF.heap[j]?=W8.heap[j]?:=fun j h1 h2=>by rw [hset j (by omega),hWA' j (by omega)];exact h.old j h1 h2
 have hrow:∀ {v:Value} {n sz:Nat} {cs:List Value} {w':World},Row W8 v n sz cs→0<n→0<sz→KeptX (atE r l g bm vf vl vfe ve vk vb vz) WF w'→Row w' v n sz cs:=fun {v n sz cs w'} hr hn hs hk=>by
  refine Row.same hr fun q hq hlt=>?_
  have hne:=Row.no_map hr hn hs M8 q hq
  have hqs:q<WF.heap.size:=by omega
  exact ⟨Nat.lt_of_lt_of_le hqs hk.size,by rw [hk.block q hqs (hnb q (by omega)) (hnz q (by omega)),hold q (by omega) hne]⟩
 refine ⟨fun w' hk=>⟨?_,hrow F hf0 (by decide) hk,hrow L hl0 (by decide) hk,hrow FE (by rw [endsL_length];exact hf0) (by decide) hk,hrow LE (by rw [endsL_length];exact hl0) (by decide) hk,?_,?_⟩,?_,own2 hzr,by unfold startS;simp [atE],fun k q hq=>absurd hq (startS_no _ _ _)⟩
 ·have:=hk.block g (by omega) (hnb g (Nat.le_refl _)) (hnz g (by omega))
  show w'.heap[g]?=_
  rw [this,hcell]
  rfl
 ·refine h.m.same ?_
  rw [hk.block bm (by omega) (hnb bm (by omega)) (hnz bm (by omega)),hset bm (by omega),hWA' bm (by omega)]
 ·have hr0:Row WF vk r.holes.length 1 (kindsV r.holes):=Row.owned (own2 h1.k)
  have hr1:RowInts WF vk .u8 (kindsI r.holes):=by
   have e:(kindsI r.holes).length=r.holes.length:=by unfold kindsI;simp
   unfold RowInts
   rw [e];exact hr0
  refine Row.same hr1 fun q hq hlt=>⟨Nat.lt_of_lt_of_le hlt hk.size,hk.block q hlt (hkb q hq) ?_⟩
  have hq':vk.ownBlock=some q:=hq
  show some q≠vz.ownBlock
  rcases hkz with e | e
  ·rw [hq'] at e;cases e
  ·rw [← hq'];exact e
 ·have:=own2 h1.b
  show WF.ownsRow (g+1) 41 3 vb r.holes.length (bindsV (bindsOf r.holes (startS r.holes)))
  rw [binds_start]
  exact this
theorem AtW.ok {r:RuleM} {l:List Prt} {g bm:Nat} {vf vl vfe ve vk vb:Value} {X:List (Nat×Hl)} {B0:Nat} {w0 W8 W:World} (h:AtW g bm r.holes r.holes r.holes vf vl vfe ve vk vb X B0 w0 W8 W) (hr:ruleZ r=0) (hs:SmallR r) (hl:wellB l=true) (sl:SmallL l) (c:Nat) :
  SkOK (atE r l g bm vf vl vfe ve vk vb (.slice (some ⟨W.heap.size,0,none⟩) r.holes.length c)):=by
 have hbs:=h.base
 refine ⟨(rule_holes hr).1,hl,hs.f.1,sl.1,hs.h.1,fun x hx=>⟨(hs.h.2 x hx).2,(hs.h.2 x hx).1⟩,hs.f,sl,?_,fun e=>?_,fun e=>?_⟩
 ·cases e:vb.ownBlock with
  | none=>exact Or.inl e
  | some q =>
   refine Or.inr fun e2=>?_
   have h1:=(h.b.lt q e).2
   have e3:some q=some W.heap.size:=by rw [← e];exact e2
   have:=Option.some.inj e3
   omega
 ·have:=(h.b.lt g e.symm).1;omega
 ·have e3:some g=some W.heap.size:=e
  have:=Option.some.inj e3;omega
@[irreducible] def atPost (r:RuleM) (o:Option MSt) (w0:World) (e:Ending) (w':World):Prop :=
 Below w0.heap.size w0 w'∧match o with
  | some τ=>∃ vb,e=.returned (.tuple #[vb,.bool true])∧w'.ownsRow w0.heap.size 41 3 vb r.holes.length (bindsV (bindsOf r.holes τ))
  | none=>e=.returned (.tuple #[.slice none 0 0,.bool false])
theorem KeptX.toBelow {E:SkE} {w w':World} {B:Nat} (h:KeptX E w w') (hB:B≤w.heap.size) (h1:∀ q,E.vb.ownBlock=some q→B≤q) (h2:∀ q,E.vz.ownBlock=some q→B≤q):Below B w w' :=
 ⟨h.os,h.tape,h.output,h.size,fun k hk=>h.block k (by omega) (fun e=>by have:=h1 k e.symm;omega) (fun e=>by have:=h2 k e.symm;omega)⟩
end Go.Proofs.YtlkheofphafofaaGreatDoor
namespace Go.Proofs.YtlkheofphafofaaGreatDoor
set_option linter.all false
attribute [local irreducible] Calls
open Go.RowKit

theorem bytes_eq_list {x y:ByteArray}:(x.toList == y.toList)=decide (x=y):=by
 by_cases h:x=y
 ·subst h;simp
 ·rw [decide_eq_false h,beq_eq_false_iff_ne];exact pl_bytes_ne h
set_option maxRecDepth 100000 in
set_option maxHeartbeats 8000000 in
theorem find_alike (r:RuleM) (vh vf vb:Value) (p:Prt) (w:World) (hr:RuleIn w r vh vf vb) (h0:0<r.fnd.length) :
  Calls Tryz.prog 86 #[ruleAgg r vh vf vb,.agg #[.int .u8 (p.1:Int),.int .i64 p.2.1,.string p.2.2]] w fun e w'=>e=.returned (.bool (alikeZ r p))∧Below w.heap.size w w':=by
 have HQ:RowKit.Hid (∀ x w',alikeZ r p=x→Below w.heap.size w w'→(fun (e:Ending) w'=>e=.returned (.bool (alikeZ r p))∧Below w.heap.size w w') (.returned (.bool x)) w'):=Hd fun x w' h hb=>⟨by rw [h],hb⟩
 generalize (fun (e:Ending) w'=>e=.returned (.bool (alikeZ r p))∧Below w.heap.size w w')=Q at *
 obtain ⟨ah,ch,rfl,hch⟩:=Row.shape hr.H
 obtain ⟨af,cf,rfl,hcf⟩:=hr.F.slice
 obtain ⟨ab,cb,rfl,hcb⟩:=hr.B.slice
 have HB:RowKit.Hid (Below w.heap.size w ((w.alloc (.cells #[.string r.nm,.int .u8 (r.goal:Int),.slice ah r.holes.length ch,.slice af r.fnd.length cf,.slice ab r.by'.length cb] 25)).alloc (.cells #[.int .u8 (p.1:Int),.int .i64 p.2.1,.string p.2.2] 48))):=Hd (((Below.refl _ _).alloc (Nat.le_refl _) _).alloc (by simp) _)
 have e3:((w.alloc (.cells #[.string r.nm,.int .u8 (r.goal:Int),.slice ah r.holes.length ch,.slice af r.fnd.length cf,.slice ab r.by'.length cb] 25)).alloc (.cells #[.int .u8 (p.1:Int),.int .i64 p.2.1,.string p.2.2] 48)).cell? ⟨w.heap.size,3,none⟩=some (.slice af r.fnd.length cf):=by
  simp only [World.cell?]
  rw [Below.heap_alloc _ _ _ (by simp),heap_alloc_new];rfl
 have HP:RowKit.Hid (PK ((w.alloc (.cells #[.string r.nm,.int .u8 (r.goal:Int),.slice ah r.holes.length ch,.slice af r.fnd.length cf,.slice ab r.by'.length cb] 25)).alloc (.cells #[.int .u8 (p.1:Int),.int .i64 p.2.1,.string p.2.2] 48)) (w.heap.size+1) p):=Hd (by
  have:=PK.alloc_new (w.alloc (.cells #[.string r.nm,.int .u8 (r.goal:Int),.slice ah r.holes.length ch,.slice af r.fnd.length cf,.slice ab r.by'.length cb] 25)) p
  simpa using this)
 obtain ⟨b,off,rfl,_,_,hbl,hcell⟩:=hr.F.at HB.out h0
 obtain ⟨d0,d1,d2⟩:=hcell 0 h0
 have HZ:RowKit.Hid (alikeZ r p=(r.fnd[0].1 == 26 || (r.fnd[0].1 == 50 || (r.fnd[0].1 == p.1&&decide (r.fnd[0].2.2=p.2.2))))):=Hd (by
  unfold alikeZ;rw [List.getElem?_eq_getElem h0])
 generalize r.fnd[0]=q at *
 obtain ⟨qk,qn,qw⟩:=q
 simp only [Nat.zero_mul,Nat.add_zero] at d0 d1 d2 HZ
 have h00:(0:Int)<r.fnd.length:=by omega
 clear hcell hr
 unfold ruleAgg
 go_enter Tryz.func86,Tryz.ntmps86
 go_upto_region 1 with (fail)
 generalize (w.alloc (.cells #[.string r.nm,.int .u8 (r.goal:Int),.slice ah r.holes.length ch,.slice (some ⟨b,off,none⟩) r.fnd.length cf,.slice ab r.by'.length cb] 25)).alloc (.cells #[.int .u8 (p.1:Int),.int .i64 p.2.1,.string p.2.2] 48)=W at *
 go_upto_region 2 with (fail)
 have HPK:=Hd (HP.out.keep ((Below.refl _ _).alloc (Nat.le_refl _) (.cells #[.int .u8 (qk:Int),.int .i64 qn,.string qw] 48)))
 have HQK:=Hd (PK.alloc_new W (qk,qn,qw))
 have HB2:=Hd (HB.out.alloc HB.out.size (.cells #[.int .u8 (qk:Int),.int .i64 qn,.string qw] 48))
 simp only [] at HQK
 clear d0 d1 d2 e3 HP HB
 generalize W.alloc (.cells #[.int .u8 (qk:Int),.int .i64 qn,.string qw] 48)=W2 at *
 have q0:=HQK.out.c0
 have q2:=HQK.out.c2
 have p0:=HPK.out.c0
 have p2:=HPK.out.c2
 simp only [] at q0 q2 p0 p2
 clear HQK HPK
 by_cases h1:qk=26
 ·subst h1
  have HX:=Hd (HQ.out true W2 (by rw [HZ.out];rfl) HB2.out)
  go_wp2_with fail
  exact HX.out
 have g1:((qk:Int) == 26)=false:=by rw [beq_eq_false_iff_ne];omega
 by_cases h2:qk=50
 ·subst h2
  have HX:=Hd (HQ.out true W2 (by rw [HZ.out];rfl) HB2.out)
  go_wp2_with fail
  exact HX.out
 have g2:((qk:Int) == 50)=false:=by rw [beq_eq_false_iff_ne];omega
 have n1:(qk == 26)=false:=by rw [beq_eq_false_iff_ne];exact h1
 have n2:(qk == 50)=false:=by rw [beq_eq_false_iff_ne];exact h2
 obtain ⟨pk,pn,pw⟩:=p
 simp only [] at p0 p2 HZ HQ
 by_cases h3:qk=pk
 ·subst h3
  have HX:=Hd (HQ.out (decide (qw=pw)) W2 (by rw [HZ.out];simp [n1,n2]) HB2.out)
  have g5:(qw.toList == pw.toList)=decide (qw=pw):=bytes_eq_list
  clear h1 h2 n1 n2
  go_wp2_with fail
  exact HX.out
 ·have HX:=Hd (HQ.out false W2 (by rw [HZ.out];simp [n1,n2,h3]) HB2.out)
  have g3:((qk:Int) == (pk:Int))=false:=by rw [beq_eq_false_iff_ne];omega
  have g4:(qk == pk)=false:=by rw [beq_eq_false_iff_ne];exact h3
  clear h1 h2 h3 n1 n2
  go_wp2_with fail
  exact HX.out
def fcRel (rs:List RuleX) (w0:World) (iv:Value) (wr:World):Prop:=∃ k:Nat,iv=.int .i64 (k:Int)∧k≤rs.length∧firstErr (rs.map (·.1))=firstErr ((rs.drop k).map (·.1))∧Below w0.heap.size w0 wr
set_option maxRecDepth 100000 in
set_option maxHeartbeats 8000000 in
theorem find_check (rs:List RuleX) (hs:∀ x∈rs,SmallR x.1) (l:List Prt) (hl:l.length≤1048576) (vr vl:Value) (w:World) (hT:Tabs w) (hM:MaxC w) (hr:RulesIn w vr rs) (hlr:PartRow w vl l) :
  Calls Tryz.prog 55 #[vr,vl] w fun e w'=>e=.returned (.int .i64 (findErr (rs.map (·.1)) l))∧Below w.heap.size w w':=by
 have HQ:RowKit.Hid (∀ x w',findErr (rs.map (·.1)) l=x→Below w.heap.size w w'→(fun (e:Ending) w'=>e=.returned (.int .i64 (findErr (rs.map (·.1)) l))∧Below w.heap.size w w') (.returned (.int .i64 x)) w'):=Hd fun x w' h hb=>⟨by rw [h],hb⟩
 generalize (fun (e:Ending) w'=>e=.returned (.int .i64 (findErr (rs.map (·.1)) l))∧Below w.heap.size w w')=Q at *
 have HF:RowKit.Hid (findErr (rs.map (·.1)) l=if wellB l=false then 8 else if 32<rs.length then 14 else firstErr (rs.map (·.1))):=Hd (by unfold findErr;rw [List.length_map])
 obtain ⟨ar,cr,rfl,hcr⟩:=hr.shape
 obtain ⟨al,cl,rfl,hcl⟩:=hlr.slice
 have CW:=Hd (term_Well l (by omega) _ w hlr)
 have HS:=Hd hs
 have HR:=Hd hr
 have HT:=Hd hT
 have HMX:=Hd hM
 clear hr hlr hs hT hM
 go_enter Tryz.func55,Tryz.ntmps55
 go_wp2_with fail
 refine CW.out.mono ?_
 rintro e W1 ⟨rfl,hb1⟩
 have HB1:=Hd hb1
 clear hb1 CW
 cases hw:wellB l with
 | false =>
  have HX:=Hd (HQ.out 8 W1 (by rw [HF.out,hw];rfl) HB1.out)
  clear hw
  go_wp2_with fail
  exact HX.out
 | true =>
 have HW:=Hd hw
 clear hw
 by_cases h32:32<rs.length
 ·have HX:=Hd (HQ.out 14 W1 (by rw [HF.out,HW.out,if_neg (by simp),if_pos h32]) HB1.out)
  have g1:(32:Int)<rs.length:=by omega
  go_wp2_with fail
  exact HX.out
 have HFE:RowKit.Hid (findErr (rs.map (·.1)) l=firstErr (rs.map (·.1))):=Hd (by rw [HF.out,HW.out,if_neg (by simp),if_neg h32])
 have h32':(rs.length:Int)≤32:=by omega
 clear h32
 go_wp2_with fail
 go_loopw [18] (fun iv wr=>fcRel rs W1 iv wr) (fun iv _=>rs.length-(intOf iv).toNat)
 case atStart=>exact ⟨0,rfl,Nat.zero_le _,rfl,Below.refl _ _⟩
 case round =>
  obtain ⟨k,rfl,hk,hfe,hb⟩:=hrel
  have HB:=Hd hb
  have HE:=Hd hfe
  clear hb hfe
  by_cases hlt:k<rs.length
  ·obtain ⟨b,off,rfl,_,_,hbl,hcell⟩:=HR.out.at (bthen HB1.out HB.out) (show 0<rs.length by omega)
   obtain ⟨d0,d1,d2,d3,d4⟩:=hcell k hlt
   have hin:=HR.out.E _ (List.getElem_mem hlt)
   have hsm:=HS.out _ (List.getElem_mem hlt)
   have HE2:RowKit.Hid (firstErr (rs.map (·.1))=if ruleZ (rs[k]).1=0 then firstErr ((rs.drop (k+1)).map (·.1)) else ruleZ (rs[k]).1):=Hd (by
    rw [HE.out,List.drop_eq_getElem_cons hlt,List.map_cons,firstErr])
   generalize rs[k]=x at *
   obtain ⟨r,vh,vf,vb⟩:=x
   simp only [] at d0 d1 d2 d3 d4 hin hsm HE2
   obtain ⟨ah,ch,rfl,hch⟩:=Row.shape hin.H
   obtain ⟨af,cf,rfl,hcf⟩:=hin.F.slice
   obtain ⟨ab,cb,rfl,hcb⟩:=hin.B.slice
   have HBA:RowKit.Hid (Below W1.heap.size W1 (wr.alloc (.cells #[.string r.nm,.int .u8 (r.goal:Int),.slice ah r.holes.length ch,.slice af r.fnd.length cf,.slice ab r.by'.length cb] 25))):=Hd (HB.out.alloc HB.out.size _)
   have CR:=Hd (rule_Check r hsm _ _ _ _ (HT.out.below (bthen HB1.out HBA.out)) (HMX.out.below (bthen HB1.out HBA.out)) (hin.below (bthen HB1.out HBA.out)))
   unfold ruleAgg at CR
   clear hcell hin hsm
   go_wp2_with fail
   refine CR.out.mono ?_
   rintro e W3 ⟨rfl,hb3⟩
   have HB3:=Hd (bthen HBA.out hb3)
   clear hb3 CR HBA d0 d1 d2 d3 d4
   by_cases hz:ruleZ r=0
   ·have HX:RowKit.Hid (fcRel rs W1 (.int .i64 ((k:Int)+1)) W3):=Hd ⟨k+1,by push_cast;rfl,hlt,by rw [HE2.out,if_pos hz],HB3.out⟩
    rw [hz]
    clear hz
    go_wp2_with fail
    case roundEnd=>exact ⟨HX.out,by simp only [intOf];omega⟩
   ·have HX:=Hd (HQ.out (ruleZ r) W3 (by rw [HFE.out,HE2.out,if_neg hz]) (bthen HB1.out HB3.out))
    have g1:(ruleZ r != 0)=true:=by rw [bne_iff_ne];exact hz
    have g2:(ruleZ r == 0)=false:=by rw [beq_eq_false_iff_ne];exact hz
    clear hz
    generalize ruleZ r=z at *
    go_wp2_with fail
    exact HX.out
  ·obtain rfl:k=rs.length:=by omega
   have HX:=Hd (HQ.out 0 wr (by rw [HFE.out,HE.out,List.drop_length];rfl) (bthen HB1.out HB.out))
   go_wp2_with fail
   exact HX.out
end Go.Proofs.YtlkheofphafofaaGreatDoor
namespace Go.Proofs.YtlkheofphafofaaGreatDoor
set_option linter.all false
attribute [local irreducible] Calls
open Go.RowKit

@[irreducible] def AnyInt (w0:World) (e:Ending) (w':World):Prop:=∃ z:Int,e=.returned (.int .i64 z)∧Below w0.heap.size w0 w'
@[irreducible] def AnyBool (w0:World) (e:Ending) (w':World):Prop:=∃ x:Bool,e=.returned (.bool x)∧Below w0.heap.size w0 w'
theorem AnyInt.mk {w0 w':World} (z:Int) (h:Below w0.heap.size w0 w'):AnyInt w0 (.returned (.int .i64 z)) w':=by unfold AnyInt;exact ⟨z,rfl,h⟩
theorem AnyBool.mk {w0 w':World} (x:Bool) (h:Below w0.heap.size w0 w'):AnyBool w0 (.returned (.bool x)) w':=by unfold AnyBool;exact ⟨x,rfl,h⟩
theorem AnyInt.out {w0 w':World} {e:Ending} (h:AnyInt w0 e w'):∃ z:Int,e=.returned (.int .i64 z)∧Below w0.heap.size w0 w':=by unfold AnyInt at h;exact h
theorem AnyBool.out {w0 w':World} {e:Ending} (h:AnyBool w0 e w'):∃ x:Bool,e=.returned (.bool x)∧Below w0.heap.size w0 w':=by unfold AnyBool at h;exact h
set_option maxRecDepth 100000 in
set_option maxHeartbeats 4000000 in
theorem ref_Several (s:ByteArray) (k:Nat) (w:World) :
  Calls Tryz.prog 22 #[.agg #[.string s,.int .u8 (k:Int)]] w fun e w'=>e=.returned (.bool (isSev k))∧Below w.heap.size w w':=by
 have HX:=Hd ((Below.refl w.heap.size w).alloc (Nat.le_refl _) (.cells #[.string s,.int .u8 (k:Int)] 43))
 have HQ:RowKit.Hid (∀ x w',isSev k=x→Below w.heap.size w w'→(fun (e:Ending) w'=>e=.returned (.bool (isSev k))∧Below w.heap.size w w') (.returned (.bool x)) w'):=Hd fun x w' h hb=>⟨by rw [h],hb⟩
 generalize (fun (e:Ending) w'=>e=.returned (.bool (isSev k))∧Below w.heap.size w w')=Q at *
 by_cases h6:k=6
 ·subst h6
  have HZ:=Hd (HQ.out true _ rfl HX.out)
  go_enter Tryz.func22,Tryz.ntmps22
  go_wp2_with fail
  exact HZ.out
 by_cases h7:k=7
 ·subst h7
  have HZ:=Hd (HQ.out true _ rfl HX.out)
  go_enter Tryz.func22,Tryz.ntmps22
  go_wp2_with fail
  exact HZ.out
 have g6:((k:Int) == 6)=false:=by rw [beq_eq_false_iff_ne];omega
 have g7:((k:Int) == 7)=false:=by rw [beq_eq_false_iff_ne];omega
 have HZ:=Hd (HQ.out false _ (by unfold isSev;simp [h6,h7]) HX.out)
 clear h6 h7
 go_enter Tryz.func22,Tryz.ntmps22
 go_wp2_with fail
 exact HZ.out
def wdRel (l:List Prt) (w:World) (nv iv:Value) (wr:World):Prop:=∃ k:Nat,iv=.int .i64 (k:Int)∧nv=.int .i64 (widest (l.take k))∧k≤l.length∧wr=w
theorem widest_snoc {l:List Prt} {k:Nat} (hk:k<l.length):widest (l.take (k+1))=max (widest (l.take k)) (l[k]).2.1:=by
 rw [take_snoc hk];unfold widest;rw [List.foldl_append];rfl
set_option maxRecDepth 100000 in
set_option maxHeartbeats 4000000 in
theorem ref_Widest (l:List Prt) (hl:l.length≤1048576) (v:Value) (w:World) (hr:PartRow w v l) :
  Calls Tryz.prog 41 #[v] w fun e w'=>e=.returned (.int .i64 (widest l))∧w=w':=by
 have HR:=Hd hr
 obtain ⟨va,vc,rfl,hvc⟩:=hr.slice
 clear hr
 go_enter Tryz.func41,Tryz.ntmps41
 go_wp2_with fail
 go_loopw [3,4] (fun nv iv wr=>wdRel l w nv iv wr) (fun _ iv _=>l.length-(intOf iv).toNat)
 case atStart=>exact ⟨0,rfl,rfl,Nat.zero_le _,rfl⟩
 case round =>
  obtain ⟨k,rfl,rfl,hk,rfl⟩:=hrel
  by_cases hlt:k<l.length
  ·obtain ⟨b,off,rfl,_,_,hbl,hcell⟩:=HR.out.at (Below.refl _ _) (show 0<l.length by omega)
   obtain ⟨d0,d1,d2⟩:=hcell k hlt
   have hk0:(0:Int)≤(k:Int):=by omega
   have hkl:(k:Int)<l.length:=by omega
   have hkc:(k:Int)<vc:=by omega
   have HX:RowKit.Hid (wdRel l wr (.int .i64 (max (widest (l.take k)) (l[k]).2.1)) (.int .i64 ((k:Int)+1)) wr):=Hd ⟨k+1,by push_cast;rfl,by rw [widest_snoc hlt],hlt,rfl⟩
   clear hcell d0 d2
   generalize (l[k]).2.1=c at *
   generalize widest (l.take k)=m at *
   go_wp2_with fail
   exact ⟨HX.out,by simp only [intOf];omega⟩
  ·obtain rfl:k=l.length:=by omega
   rw [List.take_length]
   go_wp2_with fail
   go_ret
   exact ⟨rfl,rfl⟩
def wyRel (n:Nat) (W0:World) (nv iv:Value) (wr:World):Prop:=∃ (k:Nat) (z:Int),iv=.int .i64 (k:Int)∧nv=.int .i64 z∧k≤n∧Below W0.heap.size W0 wr
set_option maxRecDepth 100000 in
set_option maxHeartbeats 4000000 in
theorem ref_Ways17 (r:RuleM) (hh:r.holes.length≤1048576) (vh vf vb:Value) (l:List Prt) (hl:l.length≤1048576) (vl:Value) (w:World) (hr:RuleIn w r vh vf vb) (hlr:PartRow w vl l) :
  Calls Tryz.prog 15 #[ruleAgg r vh vf vb,vl] w (AnyInt w):=by
 obtain ⟨ah,ch,rfl,hch⟩:=Row.shape hr.H
 obtain ⟨af,cf,rfl,hcf⟩:=hr.F.slice
 obtain ⟨ab,cb,rfl,hcb⟩:=hr.B.slice
 obtain ⟨al,cl,rfl,hcl⟩:=hlr.slice
 have HQ:RowKit.Hid (∀ z w',Below w.heap.size w w'→AnyInt w (.returned (.int .i64 z)) w'):=Hd fun z w' hb=>AnyInt.mk z hb
 generalize AnyInt w=Q at *
 unfold ruleAgg
 have HR1:RowKit.Hid (RK (w.alloc (.cells #[.string r.nm,.int .u8 (r.goal:Int),.slice ah r.holes.length ch,.slice af r.fnd.length cf,.slice ab r.by'.length cb] 25)) w.heap.size r.nm r.goal (.slice ah r.holes.length ch) (.slice af r.fnd.length cf) (.slice ab r.by'.length cb)):=Hd (heap_alloc_new _ _)
 have HB1:RowKit.Hid (Below w.heap.size w (w.alloc (.cells #[.string r.nm,.int .u8 (r.goal:Int),.slice ah r.holes.length ch,.slice af r.fnd.length cf,.slice ab r.by'.length cb] 25))):=Hd ((Below.refl _ _).alloc (Nat.le_refl _) _)
 have HH:=Hd hr.H
 have HLR:=Hd hlr
 clear hr hlr
 go_enter Tryz.func15,Tryz.ntmps15
 go_wp2_with fail
 generalize w.alloc (.cells #[.string r.nm,.int .u8 (r.goal:Int),.slice ah r.holes.length ch,.slice af r.fnd.length cf,.slice ab r.by'.length cb] 25)=W0 at *
 go_loopw [5,6] (fun nv iv wr=>wyRel r.holes.length W0 nv iv wr) (fun _ iv _=>r.holes.length-(intOf iv).toNat)
 case atStart=>exact ⟨0,1,rfl,rfl,Nat.zero_le _,Below.refl _ _⟩
 case round =>
  obtain ⟨k,z,rfl,rfl,hk,hb⟩:=hrel
  have HB:=Hd hb
  clear hb
  obtain ⟨e0,e1,e2,e3,e4⟩:=(HR1.out.below HB.out).cells
  by_cases hlt:k<r.holes.length
  ·by_cases hz:z<1000000
   ·obtain ⟨b,off,rfl,_,_,hbl,hcell⟩:=HH.out.at (bthen HB1.out HB.out) (show 0<r.holes.length by omega)
    obtain ⟨d0,d1⟩:=hcell k hlt
    have hk0:(0:Int)≤(k:Int):=by omega
    have hkl:(k:Int)<r.holes.length:=by omega
    have hkc:(k:Int)<ch:=by omega
    generalize r.holes[k]=y at *
    obtain ⟨yn,yk⟩:=y
    simp only [] at d0 d1
    have CS:=Hd (ref_Several yn yk wr)
    clear hcell
    go_wp2_with fail
    refine CS.out.mono ?_
    rintro e w2 ⟨rfl,hb2⟩
    have HB2:=Hd (bthen HB.out hb2)
    clear hb2 CS e0 e1 e2 e3 e4 d0 d1
    cases hs:isSev yk with
    | false =>
     go_wp2_with fail
     exact ⟨⟨k+1,z,by push_cast;rfl,rfl,hlt,HB2.out⟩,by simp only [intOf];omega⟩
    | true =>
     have CW:=Hd (ref_Widest l hl _ w2 (HLR.out.below (bthen HB1.out HB2.out)))
     go_wp2_with fail
     refine CW.out.mono ?_
     rintro e w3 ⟨rfl,rfl⟩
     generalize widest l=m
     go_wp2_with fail
     all_goals exact ⟨⟨k+1,_,by push_cast;rfl,rfl,hlt,HB2.out⟩,by simp only [intOf];omega⟩
   ·have hz':¬ z<1000000:=hz
    have HX:=Hd (HQ.out z wr (bthen HB1.out HB.out))
    have hkl:(k:Int)<r.holes.length:=by omega
    go_wp2_with fail
    exact HX.out
  ·obtain rfl:k=r.holes.length:=by omega
   have HX:=Hd (HQ.out z wr (bthen HB1.out HB.out))
   go_wp2_with fail
   exact HX.out
set_option maxRecDepth 100000 in
set_option maxHeartbeats 4000000 in
theorem ref_Ways18 (rs:List RuleX) (hs:∀ x∈rs,x.1.holes.length≤1048576) (hn:rs.length≤1048576) (vr:Value) (l:List Prt) (hl:l.length≤1048576) (vl:Value) (w:World) (hr:RulesIn w vr rs) (hlr:PartRow w vl l) :
  Calls Tryz.prog 53 #[vr,vl] w (AnyInt w):=by
 obtain ⟨ar,cr,rfl,hcr⟩:=hr.shape
 obtain ⟨al,cl,rfl,hcl⟩:=hlr.slice
 have HQ:RowKit.Hid (∀ z w',Below w.heap.size w w'→AnyInt w (.returned (.int .i64 z)) w'):=Hd fun z w' hb=>AnyInt.mk z hb
 generalize AnyInt w=Q at *
 have HS:=Hd hs
 have HR:=Hd hr
 have HLR:=Hd hlr
 clear hr hlr hs
 go_enter Tryz.func53,Tryz.ntmps53
 go_wp2_with fail
 go_loopw [5,6] (fun nv iv wr=>wyRel rs.length w nv iv wr) (fun _ iv _=>rs.length-(intOf iv).toNat)
 case atStart=>exact ⟨0,0,rfl,rfl,Nat.zero_le _,Below.refl _ _⟩
 case round =>
  obtain ⟨k,z,rfl,rfl,hk,hb⟩:=hrel
  have HB:=Hd hb
  clear hb
  by_cases hlt:k<rs.length
  ·by_cases hz:k<40
   ·obtain ⟨b,off,rfl,_,_,hbl,hcell⟩:=HR.out.at HB.out (show 0<rs.length by omega)
    obtain ⟨d0,d1,d2,d3,d4⟩:=hcell k hlt
    have hk0:(0:Int)≤(k:Int):=by omega
    have hkl:(k:Int)<rs.length:=by omega
    have hkc:(k:Int)<cr:=by omega
    have hk40:(k:Int)<40:=by omega
    have hin:=HR.out.E _ (List.getElem_mem hlt)
    have hsm:=HS.out _ (List.getElem_mem hlt)
    generalize rs[k]=x at *
    obtain ⟨r,vh,vf,vb⟩:=x
    simp only [] at d0 d1 d2 d3 d4 hin hsm
    have CW:=Hd (ref_Ways17 r hsm _ _ _ l hl _ wr (hin.below HB.out) (HLR.out.below HB.out))
    obtain ⟨ah,ch,rfl,hch⟩:=Row.shape hin.H
    obtain ⟨af,cf,rfl,hcf⟩:=hin.F.slice
    obtain ⟨ab,cb,rfl,hcb⟩:=hin.B.slice
    unfold ruleAgg at CW
    clear hcell hin hsm hz
    go_wp2_with fail
    refine CW.out.mono ?_
    intro e w2 h2
    obtain ⟨y,rfl,hb2⟩:=h2.out
    have HB2:=Hd (bthen HB.out hb2)
    clear h2 hb2 CW d0 d1 d2 d3 d4
    go_wp2_with fail
    all_goals exact ⟨⟨k+1,_,by push_cast;rfl,rfl,hlt,HB2.out⟩,by simp only [intOf];omega⟩
   ·have hk40:¬ (k:Int)<40:=by omega
    have hkl:(k:Int)<rs.length:=by omega
    have HX:=Hd (HQ.out z wr HB.out)
    go_wp2_with fail
    exact HX.out
  ·obtain rfl:k=rs.length:=by omega
   have HX:=Hd (HQ.out z wr HB.out)
   go_wp2_with fail
   exact HX.out
def TellsB (x:Bool) (a b:List Bnd):Prop:=x=true↔a=b
def sbRel (a b:List Bnd) (w:World) (iv:Value) (wr:World):Prop:=∃ k:Nat,iv=.int .i64 (k:Int)∧k≤a.length∧a.take k=b.take k∧Below w.heap.size w wr
set_option maxRecDepth 100000 in
set_option maxHeartbeats 4000000 in
theorem ref_SameBinds (a b:List Bnd) (ha:a.length≤1048576) (hb:b.length≤1048576) (va vb:Value) (w:World) (h1:BindRow w va a) (h2:BindRow w vb b) :
  Calls Tryz.prog 13 #[va,vb] w fun e w'=>∃ x,e=.returned (.bool x)∧TellsB x a b∧Below w.heap.size w w':=by
 have HQ:RowKit.Hid (∀ x w',TellsB x a b→Below w.heap.size w w'→(fun (e:Ending) w'=>∃ x,e=.returned (.bool x)∧TellsB x a b∧Below w.heap.size w w') (.returned (.bool x)) w'):=Hd fun x w' h h2=>⟨x,rfl,h,h2⟩
 generalize (fun (e:Ending) w'=>∃ x,e=.returned (.bool x)∧TellsB x a b∧Below w.heap.size w w')=Q at *
 obtain ⟨aa,ac,rfl,hac⟩:=Row.shape h1
 obtain ⟨ba,bc,rfl,hbc⟩:=Row.shape h2
 have H1:=Hd h1
 have H2:=Hd h2
 clear h1 h2
 by_cases hlen:a.length=b.length
 case neg =>
  have HX:=Hd (HQ.out false w ⟨(fun h=>by cases h),fun h=>absurd (congrArg List.length h) hlen⟩ (Below.refl _ _))
  have g1:((a.length:Int) != (b.length:Int))=true:=by rw [bne_iff_ne];omega
  have g2:(a.length != b.length)=true:=by rw [bne_iff_ne];exact hlen
  have g3:(a.length == b.length)=false:=by rw [beq_eq_false_iff_ne];exact hlen
  clear hlen
  go_enter Tryz.func13,Tryz.ntmps13
  go_wp2_with fail
  exact HX.out
 have HLEN:=Hd hlen
 have H2':RowKit.Hid (BindRow w (.slice ba a.length bc) b):=Hd (by rw [hlen];exact H2.out)
 rw [← hlen]
 clear H2
 rw [← hlen] at hbc
 clear hlen
 go_enter Tryz.func13,Tryz.ntmps13
 go_wp2_with fail
 go_loopw [5] (fun iv wr=>sbRel a b w iv wr) (fun iv _=>a.length-(intOf iv).toNat)
 case atStart=>exact ⟨0,rfl,Nat.zero_le _,rfl,Below.refl _ _⟩
 case round =>
  obtain ⟨k,rfl,hk,htk,hbl⟩:=hrel
  have HB:=Hd hbl
  have HTK:=Hd htk
  clear hbl htk
  by_cases hlt:k<a.length
  ·have hlb:k<b.length:=by have:=HLEN.out;omega
   obtain ⟨b1,o1,rfl,_,_,_,hc1⟩:=BindRow.at H1.out HB.out (show 0<a.length by omega)
   obtain ⟨b2,o2,rfl,hxx,_,_,hc2⟩:=BindRow.at H2'.out HB.out (show 0<b.length by omega)
   clear hxx
   obtain ⟨c0,c1,c2⟩:=hc1 k hlt
   obtain ⟨d0,d1,d2⟩:=hc2 k hlb
   have hk0:(0:Int)≤(k:Int):=by omega
   have hkl:(k:Int)<a.length:=by omega
   have hka:(k:Int)<ac:=by omega
   have hkb:(k:Int)<bc:=by omega
   have HYES:RowKit.Hid (a[k]=b[k]→a.take (k+1)=b.take (k+1)):=Hd (fun e=>by rw [take_snoc hlt,take_snoc hlb,HTK.out,e])
   have HNO:RowKit.Hid (a[k]≠b[k]→a≠b):=Hd (fun e h=>by subst h;exact e rfl)
   have HBD:=Hd HB.out.drew
   generalize a[k]=x at *
   generalize b[k]=y at *
   obtain ⟨xn,xf,xt⟩:=x
   obtain ⟨yn,yf,yt⟩:=y
   simp only [] at c0 c1 c2 d0 d1 d2
   clear hc1 hc2
   by_cases hE:xn=yn∧xf=yf∧xt=yt
   ·obtain ⟨rfl,rfl,rfl⟩:=hE
    have HTK1:=Hd (HYES.out rfl)
    clear HYES HNO
    go_wp2_with fail
    go_quiet (fail)
    have HB2:=Hd (drewB HB.out nq)
    have HR:RowKit.Hid (sbRel a b w (.int .i64 ((k:Int)+1)) (wr.drewN nq)):=Hd ⟨k+1,by push_cast;rfl,hlt,HTK1.out,HB2.out⟩
    go_wp2_with fail
    exact ⟨HR.out,by simp only [intOf];omega⟩
   ·have HF:RowKit.Hid (TellsB false a b):=Hd ⟨(fun e=>by cases e),fun e=>absurd e (HNO.out (fun e2=>hE (by simp only [Prod.mk.injEq] at e2;exact e2)))⟩
    clear HYES HNO
    have hcs:xn≠yn∨(xn=yn∧xf≠yf)∨(xn=yn∧xf=yf∧xt≠yt):=by
     by_cases q1:xn=yn
     ·by_cases q2:xf=yf
      ·exact Or.inr (Or.inr ⟨q1,q2,fun q3=>hE ⟨q1,q2,q3⟩⟩)
      ·exact Or.inr (Or.inl ⟨q1,q2⟩)
     ·exact Or.inl q1
    clear hE
    rcases hcs with q1 | ⟨rfl,q2⟩ | ⟨rfl,rfl,q3⟩
    ·have f1:(xn.toList == yn.toList)=false:=by rw [beq_eq_false_iff_ne];exact pl_bytes_ne q1
     go_wp2_with fail
     go_quiet (fail)
     have HX:=Hd (HQ.out _ _ HF.out (drewB HB.out nq))
     go_wp2_with fail
     exact HX.out
    ·have f1:(xf == yf)=false:=by rw [beq_eq_false_iff_ne];exact q2
     go_wp2_with fail
     go_quiet (fail)
     have HX:=Hd (HQ.out _ _ HF.out (drewB HB.out nq))
     go_wp2_with fail
     exact HX.out
    ·have f1:(xt == yt)=false:=by rw [beq_eq_false_iff_ne];exact q3
     go_wp2_with fail
     go_quiet (fail)
     have HX:=Hd (HQ.out _ _ HF.out (drewB HB.out nq))
     go_wp2_with fail
     exact HX.out
  ·have hkl:¬ (k:Int)<a.length:=by omega
   obtain rfl:k=a.length:=by omega
   have HX:=Hd (HQ.out true wr ⟨fun _=>by have:=HTK.out;rw [List.take_length,HLEN.out,List.take_length] at this;exact this,fun _=>rfl⟩ HB.out)
   go_wp2_with fail
   exact HX.out
end Go.Proofs.YtlkheofphafofaaGreatDoor
namespace Go.Proofs.YtlkheofphafofaaGreatDoor
set_option linter.all false
attribute [local irreducible] Calls
open Go.RowKit

def grRel (n:Nat) (W0:World) (nv iv:Value) (wr:World):Prop:=∃ (k:Nat) (z:Int),iv=.int .i64 (k:Int)∧nv=.int .i64 z∧k≤n∧Below W0.heap.size W0 wr
set_option maxRecDepth 100000 in
set_option maxHeartbeats 16000000 in
theorem ref_Great (rs:List RuleX) (hs:∀ x∈rs,SmallR x.1) (hn:rs.length≤1048576) (vr:Value) (most:Int) (w:World) (hr:RulesIn w vr rs) :
  Calls Tryz.prog 14 #[vr,.int .i64 most] w (AnyBool w):=by
 obtain ⟨ar,cr,rfl,hcr⟩:=hr.shape
 have HQ:RowKit.Hid (∀ z w',Below w.heap.size w w'→AnyBool w (.returned (.bool z)) w'):=Hd fun z w' hb=>AnyBool.mk z hb
 generalize AnyBool w=Q at *
 have HS:=Hd hs
 have HR:=Hd hr
 clear hr hs
 go_enter Tryz.func14,Tryz.ntmps14
 go_wp2_with fail
 go_loopw [5,6] (fun nv iv wr=>grRel rs.length w nv iv wr) (fun _ iv _=>rs.length-(intOf iv).toNat)
 case atStart=>exact ⟨0,0,rfl,rfl,Nat.zero_le _,Below.refl _ _⟩
 case round =>
  obtain ⟨k,z,rfl,rfl,hk,hb⟩:=hrel
  have HB:=Hd hb
  clear hb
  by_cases hlt:k<rs.length
  case neg =>
   obtain rfl:k=rs.length:=by omega
   have HX:=Hd (fun x=>HQ.out x wr HB.out)
   go_wp2_with fail
   exact HX.out _
  by_cases hz:z≤most
  case neg =>
   have hkl:(k:Int)<rs.length:=by omega
   have HX:=Hd (fun x=>HQ.out x wr HB.out)
   go_wp2_with fail
   exact HX.out _
  have hk0:(0:Int)≤(k:Int):=by omega
  have hkl:(k:Int)<rs.length:=by omega
  have hkc:(k:Int)<cr:=by omega
  have hin:=HR.out.E _ (List.getElem_mem hlt)
  have hsm:=HS.out _ (List.getElem_mem hlt)
  obtain ⟨b,off,rfl,_,_,hbl,hcell⟩:=HR.out.at HB.out (show 0<rs.length by omega)
  have hc:=hcell k hlt
  have HC:RowKit.Hid (∀ W,Below w.heap.size w W→W.cell? ⟨b,off+k*5,none⟩=some (.string (rs[k]).1.nm)∧W.cell? ⟨b,off+k*5+2,none⟩=some (rs[k]).2.1∧W.cell? ⟨b,off+k*5+3,none⟩=some (rs[k]).2.2.1∧W.cell? ⟨b,off+k*5+4,none⟩=some (rs[k]).2.2.2):=Hd fun W hW=>by
   obtain ⟨b',off',e,_,_,_,hc2⟩:=HR.out.at hW (show 0<rs.length by omega)
   cases e
   obtain ⟨c0,_,c2,c3,c4⟩:=hc2 k hlt
   exact ⟨c0,c2,c3,c4⟩
  clear hcell hc
  generalize rs[k]=x at *
  obtain ⟨r,vh,vf,vb⟩:=x
  simp only [] at hin hsm HC
  obtain ⟨ah,ch,rfl,hch⟩:=Row.shape hin.H
  obtain ⟨af,cf,rfl,hcf⟩:=hin.F.slice
  obtain ⟨ab,cb,rfl,hcb⟩:=hin.B.slice
  have HIN:=Hd hin
  have HSM:=Hd hsm
  have hlh:=hsm.h.1
  have hlf:=hsm.f.1
  have hlb:=hsm.b.1
  have hln:=hsm.n
  clear hin hsm
  obtain ⟨c0,c2,c3,c4⟩:=HC.out _ HB.out
  go_upto_region 5 with (fail)
  go_quiet (fail)
  have HB1:=Hd (drewB HB.out nq)
  clear c0 c2 c3 c4
  generalize wr.drewN nq=w1 at *
  go_wp2_with fail
  go_loopw [5,7] (fun nv iv wr=>grRel r.holes.length w nv iv wr) (fun _ iv _=>r.holes.length-(intOf iv).toNat)
  case atStart=>exact ⟨0,_,rfl,rfl,Nat.zero_le _,HB1.out⟩
  case round =>
   obtain ⟨j1,z1,rfl,rfl,hj1,hb1⟩:=hrel
   have HBX:=Hd hb1
   clear hb1
   obtain ⟨c0,c2,c3,c4⟩:=HC.out _ HBX.out
   by_cases hlt1:j1<r.holes.length
   ·by_cases hzz:z1≤most
    ·have hq0:(0:Int)≤(j1:Int):=by omega
     have hql:(j1:Int)<r.holes.length:=by omega
     have hqc:(j1:Int)<ch:=by omega
     obtain ⟨b1,o1,rfl,_,_,_,hcc⟩:=HIN.out.H.at HBX.out (show 0<r.holes.length by omega)
     have hd:=hcc j1 hlt1
     have hsz:=HSM.out.h.2 _ (List.getElem_mem hlt1)
     generalize (r.holes[j1])=y at *
     obtain ⟨yn,yk⟩:=y
     simp only [] at hd hsz
     obtain ⟨d0,d1⟩:=hd
     obtain ⟨s0,s1⟩:=hsz
     clear hcc
     go_wp2_with fail
     all_goals exact ⟨⟨j1+1,_,by push_cast;rfl,rfl,hlt1,HBX.out⟩,by simp only [intOf];omega⟩
    ·have hql:(j1:Int)<r.holes.length:=by omega
     go_wp2_with fail
     go_loopw [5,8] (fun nv iv wr=>grRel r.fnd.length w nv iv wr) (fun _ iv _=>r.fnd.length-(intOf iv).toNat)
     case atStart=>exact ⟨0,_,rfl,rfl,Nat.zero_le _,HBX.out⟩
     case round =>
      obtain ⟨j2,z2,rfl,rfl,hj2,hb2⟩:=hrel
      have HBX:=Hd hb2
      clear hb2
      obtain ⟨c0,c2,c3,c4⟩:=HC.out _ HBX.out
      by_cases hlt2:j2<r.fnd.length
      ·by_cases hzz:z2≤most
       ·have hq0:(0:Int)≤(j2:Int):=by omega
        have hql:(j2:Int)<r.fnd.length:=by omega
        have hqc:(j2:Int)<cf:=by omega
        obtain ⟨b2,o2,rfl,_,_,_,hcc⟩:=HIN.out.F.at HBX.out (show 0<r.fnd.length by omega)
        have hd:=hcc j2 hlt2
        have hsz:=HSM.out.f.2 _ (List.getElem_mem hlt2)
        generalize (r.fnd[j2])=y at *
        obtain ⟨yk,yn,yw⟩:=y
        simp only [] at hd hsz
        obtain ⟨d0,d1,d2⟩:=hd
        obtain ⟨s0,s1⟩:=hsz
        clear hcc
        go_wp2_with fail
        all_goals exact ⟨⟨j2+1,_,by push_cast;rfl,rfl,hlt2,HBX.out⟩,by simp only [intOf];omega⟩
       ·have hql:(j2:Int)<r.fnd.length:=by omega
        go_wp2_with fail
        go_loopw [5,9] (fun nv iv wr=>grRel r.by'.length w nv iv wr) (fun _ iv _=>r.by'.length-(intOf iv).toNat)
        case atStart=>exact ⟨0,_,rfl,rfl,Nat.zero_le _,HBX.out⟩
        case round =>
         obtain ⟨j3,z3,rfl,rfl,hj3,hb3⟩:=hrel
         have HBX:=Hd hb3
         clear hb3
         obtain ⟨c0,c2,c3,c4⟩:=HC.out _ HBX.out
         by_cases hlt3:j3<r.by'.length
         ·by_cases hzz:z3≤most
          ·have hq0:(0:Int)≤(j3:Int):=by omega
           have hql:(j3:Int)<r.by'.length:=by omega
           have hqc:(j3:Int)<cb:=by omega
           obtain ⟨b3,o3,rfl,_,_,_,hcc⟩:=HIN.out.B.at HBX.out (show 0<r.by'.length by omega)
           have hd:=hcc j3 hlt3
           have hsz:=HSM.out.b.2 _ (List.getElem_mem hlt3)
           generalize (r.by'[j3])=y at *
           obtain ⟨yk,yn,yw⟩:=y
           simp only [] at hd hsz
           obtain ⟨d0,d1,d2⟩:=hd
           obtain ⟨s0,s1⟩:=hsz
           clear hcc
           go_wp2_with fail
           all_goals exact ⟨⟨j3+1,_,by push_cast;rfl,rfl,hlt3,HBX.out⟩,by simp only [intOf];omega⟩
          ·have hql:(j3:Int)<r.by'.length:=by omega
           go_wp2_with fail
           exact ⟨⟨k+1,_,by push_cast;rfl,rfl,hlt,HBX.out⟩,by simp only [intOf];omega⟩
         ·obtain rfl:j3=r.by'.length:=by omega
          go_wp2_with fail
          exact ⟨⟨k+1,_,by push_cast;rfl,rfl,hlt,HBX.out⟩,by simp only [intOf];omega⟩
      ·obtain rfl:j2=r.fnd.length:=by omega
       go_wp2_with fail
       go_loopw [5,9] (fun nv iv wr=>grRel r.by'.length w nv iv wr) (fun _ iv _=>r.by'.length-(intOf iv).toNat)
       case atStart=>exact ⟨0,_,rfl,rfl,Nat.zero_le _,HBX.out⟩
       case round =>
        obtain ⟨j3,z3,rfl,rfl,hj3,hb3⟩:=hrel
        have HBX:=Hd hb3
        clear hb3
        obtain ⟨c0,c2,c3,c4⟩:=HC.out _ HBX.out
        by_cases hlt3:j3<r.by'.length
        ·by_cases hzz:z3≤most
         ·have hq0:(0:Int)≤(j3:Int):=by omega
          have hql:(j3:Int)<r.by'.length:=by omega
          have hqc:(j3:Int)<cb:=by omega
          obtain ⟨b3,o3,rfl,_,_,_,hcc⟩:=HIN.out.B.at HBX.out (show 0<r.by'.length by omega)
          have hd:=hcc j3 hlt3
          have hsz:=HSM.out.b.2 _ (List.getElem_mem hlt3)
          generalize (r.by'[j3])=y at *
          obtain ⟨yk,yn,yw⟩:=y
          simp only [] at hd hsz
          obtain ⟨d0,d1,d2⟩:=hd
          obtain ⟨s0,s1⟩:=hsz
          clear hcc
          go_wp2_with fail
          all_goals exact ⟨⟨j3+1,_,by push_cast;rfl,rfl,hlt3,HBX.out⟩,by simp only [intOf];omega⟩
         ·have hql:(j3:Int)<r.by'.length:=by omega
          go_wp2_with fail
          exact ⟨⟨k+1,_,by push_cast;rfl,rfl,hlt,HBX.out⟩,by simp only [intOf];omega⟩
        ·obtain rfl:j3=r.by'.length:=by omega
         go_wp2_with fail
         exact ⟨⟨k+1,_,by push_cast;rfl,rfl,hlt,HBX.out⟩,by simp only [intOf];omega⟩
   ·obtain rfl:j1=r.holes.length:=by omega
    go_wp2_with fail
    go_loopw [5,8] (fun nv iv wr=>grRel r.fnd.length w nv iv wr) (fun _ iv _=>r.fnd.length-(intOf iv).toNat)
    case atStart=>exact ⟨0,_,rfl,rfl,Nat.zero_le _,HBX.out⟩
    case round =>
     obtain ⟨j2,z2,rfl,rfl,hj2,hb2⟩:=hrel
     have HBX:=Hd hb2
     clear hb2
     obtain ⟨c0,c2,c3,c4⟩:=HC.out _ HBX.out
     by_cases hlt2:j2<r.fnd.length
     ·by_cases hzz:z2≤most
      ·have hq0:(0:Int)≤(j2:Int):=by omega
       have hql:(j2:Int)<r.fnd.length:=by omega
       have hqc:(j2:Int)<cf:=by omega
       obtain ⟨b2,o2,rfl,_,_,_,hcc⟩:=HIN.out.F.at HBX.out (show 0<r.fnd.length by omega)
       have hd:=hcc j2 hlt2
       have hsz:=HSM.out.f.2 _ (List.getElem_mem hlt2)
       generalize (r.fnd[j2])=y at *
       obtain ⟨yk,yn,yw⟩:=y
       simp only [] at hd hsz
       obtain ⟨d0,d1,d2⟩:=hd
       obtain ⟨s0,s1⟩:=hsz
       clear hcc
       go_wp2_with fail
       all_goals exact ⟨⟨j2+1,_,by push_cast;rfl,rfl,hlt2,HBX.out⟩,by simp only [intOf];omega⟩
      ·have hql:(j2:Int)<r.fnd.length:=by omega
       go_wp2_with fail
       go_loopw [5,9] (fun nv iv wr=>grRel r.by'.length w nv iv wr) (fun _ iv _=>r.by'.length-(intOf iv).toNat)
       case atStart=>exact ⟨0,_,rfl,rfl,Nat.zero_le _,HBX.out⟩
       case round =>
        obtain ⟨j3,z3,rfl,rfl,hj3,hb3⟩:=hrel
        have HBX:=Hd hb3
        clear hb3
        obtain ⟨c0,c2,c3,c4⟩:=HC.out _ HBX.out
        by_cases hlt3:j3<r.by'.length
        ·by_cases hzz:z3≤most
         ·have hq0:(0:Int)≤(j3:Int):=by omega
          have hql:(j3:Int)<r.by'.length:=by omega
          have hqc:(j3:Int)<cb:=by omega
          obtain ⟨b3,o3,rfl,_,_,_,hcc⟩:=HIN.out.B.at HBX.out (show 0<r.by'.length by omega)
          have hd:=hcc j3 hlt3
          have hsz:=HSM.out.b.2 _ (List.getElem_mem hlt3)
          generalize (r.by'[j3])=y at *
          obtain ⟨yk,yn,yw⟩:=y
          simp only [] at hd hsz
          obtain ⟨d0,d1,d2⟩:=hd
          obtain ⟨s0,s1⟩:=hsz
          clear hcc
          go_wp2_with fail
          all_goals exact ⟨⟨j3+1,_,by push_cast;rfl,rfl,hlt3,HBX.out⟩,by simp only [intOf];omega⟩
         ·have hql:(j3:Int)<r.by'.length:=by omega
          go_wp2_with fail
          exact ⟨⟨k+1,_,by push_cast;rfl,rfl,hlt,HBX.out⟩,by simp only [intOf];omega⟩
        ·obtain rfl:j3=r.by'.length:=by omega
         go_wp2_with fail
         exact ⟨⟨k+1,_,by push_cast;rfl,rfl,hlt,HBX.out⟩,by simp only [intOf];omega⟩
     ·obtain rfl:j2=r.fnd.length:=by omega
      go_wp2_with fail
      go_loopw [5,9] (fun nv iv wr=>grRel r.by'.length w nv iv wr) (fun _ iv _=>r.by'.length-(intOf iv).toNat)
      case atStart=>exact ⟨0,_,rfl,rfl,Nat.zero_le _,HBX.out⟩
      case round =>
       obtain ⟨j3,z3,rfl,rfl,hj3,hb3⟩:=hrel
       have HBX:=Hd hb3
       clear hb3
       obtain ⟨c0,c2,c3,c4⟩:=HC.out _ HBX.out
       by_cases hlt3:j3<r.by'.length
       ·by_cases hzz:z3≤most
        ·have hq0:(0:Int)≤(j3:Int):=by omega
         have hql:(j3:Int)<r.by'.length:=by omega
         have hqc:(j3:Int)<cb:=by omega
         obtain ⟨b3,o3,rfl,_,_,_,hcc⟩:=HIN.out.B.at HBX.out (show 0<r.by'.length by omega)
         have hd:=hcc j3 hlt3
         have hsz:=HSM.out.b.2 _ (List.getElem_mem hlt3)
         generalize (r.by'[j3])=y at *
         obtain ⟨yk,yn,yw⟩:=y
         simp only [] at hd hsz
         obtain ⟨d0,d1,d2⟩:=hd
         obtain ⟨s0,s1⟩:=hsz
         clear hcc
         go_wp2_with fail
         all_goals exact ⟨⟨j3+1,_,by push_cast;rfl,rfl,hlt3,HBX.out⟩,by simp only [intOf];omega⟩
        ·have hql:(j3:Int)<r.by'.length:=by omega
         go_wp2_with fail
         exact ⟨⟨k+1,_,by push_cast;rfl,rfl,hlt,HBX.out⟩,by simp only [intOf];omega⟩
       ·obtain rfl:j3=r.by'.length:=by omega
        go_wp2_with fail
        exact ⟨⟨k+1,_,by push_cast;rfl,rfl,hlt,HBX.out⟩,by simp only [intOf];omega⟩
end Go.Proofs.YtlkheofphafofaaGreatDoor
