/- Layer 20: fill.Fill, walked (printed by tools/genfillfil.py). -/
import Derived.Test.YtmklemelgdilkaaGreatDoorPackMk
import Derived.Test.YtmklemelgdilkaaGreatDoorFillZMk
import Derived.Test.YtmklemelgdilkaaGreatDoorFillCMk
import Derived.Test.YtmklemelgdilkaaGreatDoorRightWMk
import Derived.Test.YtmklemelgdilkaaGreatDoorMakeMk
import Derived.Test.YtmklemelgdilkaaGreatDoorMakWMk
import Derived.Test.YtmklemelgdilkaaGreatDoorInstWMk
import Derived.Test.YtmklemelgdilkaaGreatDoorUntilMk
import Derived.Test.YtmklemelgdilkaaGreatDoorStillMk
import Derived.Deep.RegionHeld3
import Derived.Test.YtmklemelgdilkaaGreatDoorStepBMk
import Derived.Test.YtmklemelgdilkaaGreatDoorFillBMk
namespace Go.Proofs.YtmklemelgdilkaaGreatDoor
set_option linter.all false
attribute [local irreducible] Calls
attribute [local irreducible] wpStill
open Go.RowKit

set_option maxRecDepth 100000 in
set_option maxHeartbeats 32000000 in
theorem fill_Fill (r:RuleM) (hsm:SmallR r) (vh vf vb:Value) (l:List Prt) (hl:SmallL l) (vl vq:Value) (bs:List Bnd) (hbl:bs.length≤1048576) (w:World) (hT:Tabs w) (hM:MaxC w) (hin:RuleIn w r vh vf vb) (hlr:PartRow w vl l) (hrb:BindRow w vq bs) :
  Calls Tryz.prog 11 #[ruleAgg r vh vf vb,vl,vq] w (fillPost r l bs w):=by
 have HNO:RowKit.Hid (∀ z w',fillZ r l bs=([],z)→Below w.heap.size w w'→fillPost r l bs w (.returned (.tuple #[.slice none 0 0,.slice none 0 0,.int .i64 z])) w'):=Hd fun z w' h hb=>fillPost.no h hb
 have HYES:RowKit.Hid (∀ w' ov nv,fillZ r l bs=(outP r l bs,0)→Below w.heap.size w w'→PartRow w' ov ((outP r l bs).map (·.1))→RowInts w' nv .i64 ((outP r l bs).map (·.2))→fillPost r l bs w (.returned (.tuple #[ov,nv,.int .i64 0])) w'):=Hd fun w' ov nv h hb h1 h2=>by
  unfold fillPost;rw [h];exact ⟨hb,ov,nv,rfl,h1,h2⟩
 generalize fillPost r l bs w=Q at *
 have hll:=hl.1
 have C1:=Hd (fun W (hb:Below w.heap.size w W)=>rule_Check r hsm vh vf vb W (hT.below hb) (hM.below hb) (hin.below hb))
 have C2:=Hd (fun W (hb:Below w.heap.size w W)=>term_Well l (by omega) vl W (hlr.below hb))
 have C3:=Hd (fun (hz:ruleZ r=0) (hw:wellB l=true) ve W (hb:Below w.heap.size w W) (he:RowInts W ve .i64 (endsL l))=>fill_right r (rule_kinds hz) hsm.h.1 vh vf vb l hl _ (well_rows hw) vl ve vq bs hbl W (hin.below hb) (hlr.below hb) he (hrb.below hb))
 have C4:=Hd (fun (hw:wellB l=true) W (hb:Below w.heap.size w W)=>fill_ends l (by omega) _ (well_rows hw) vl W (hlr.below hb))
 obtain ⟨ah,ch,rfl,hch⟩:=Row.shape hin.H
 obtain ⟨af,cf,rfl,hcf⟩:=hin.F.slice
 obtain ⟨ab,cb,rfl,hcb⟩:=hin.B.slice
 obtain ⟨al,cl,rfl,hcl⟩:=hlr.slice
 obtain ⟨aq,cq,rfl,hcq⟩:=Row.shape hrb
 have HIN:=Hd hin
 have HLR:=Hd hlr
 have HRB:=Hd hrb
 have HSM:=Hd hsm
 have HSL:=Hd hl
 have HR1:RowKit.Hid (RK (w.alloc (.cells #[.string r.nm,.int .u8 (r.goal:Int),.slice ah r.holes.length ch,.slice af r.fnd.length cf,.slice ab r.by'.length cb] 35)) w.heap.size r.nm r.goal (.slice ah r.holes.length ch) (.slice af r.fnd.length cf) (.slice ab r.by'.length cb)):=Hd (heap_alloc_new _ _)
 have HB1:RowKit.Hid (Below w.heap.size w (w.alloc (.cells #[.string r.nm,.int .u8 (r.goal:Int),.slice ah r.holes.length ch,.slice af r.fnd.length cf,.slice ab r.by'.length cb] 35))):=Hd ((Below.refl _ _).alloc (Nat.le_refl _) _)
 clear hin hlr hrb hsm hl hT hM
 unfold ruleAgg at C1 C3 ⊢
 go_enter Tryz.func11,Tryz.ntmps11
 go_upto_region 1 with (fail)
 generalize w.alloc (.cells #[.string r.nm,.int .u8 (r.goal:Int),.slice ah r.holes.length ch,.slice af r.fnd.length cf,.slice ab r.by'.length cb] 35)=W1 at *
 obtain ⟨gr,hgr⟩:∃ gr,w.heap.size=gr:=⟨_,rfl⟩
 rw [hgr] at HR1 ⊢
 clear hgr
 obtain ⟨e0,e1,e2,e3,e4⟩:=HR1.out.cells
 have C1x:=Hd (C1.out W1 HB1.out)
 go_wp2_with fail
 refine C1x.out.mono ?_
 rintro e w2 ⟨rfl,hb2⟩
 have HB2:=Hd (bthen HB1.out hb2)
 have HR2:=Hd (HR1.out.below hb2)
 clear hb2 C1 C1x e0 e1 e2 e3 e4 HR1
 by_cases hz:ruleZ r=0
 case neg =>
  have HX:=Hd (HNO.out _ w2 (fill_err hz) HB2.out)
  have g1:(ruleZ r != 0)=true:=by rw [bne_iff_ne];exact hz
  have g2:(ruleZ r == 0)=false:=by rw [beq_eq_false_iff_ne];exact hz
  clear hz
  generalize ruleZ r=z at *
  go_wp2_with fail
  exact HX.out
 have HZ:=Hd hz
 rw [hz]
 clear hz
 have C2x:=Hd (C2.out w2 HB2.out)
 go_wp2_with fail
 refine C2x.out.mono ?_
 rintro e w3 ⟨rfl,hb3⟩
 have HB3:=Hd (bthen HB2.out hb3)
 have HR3:=Hd (HR2.out.below hb3)
 clear hb3 C2 C2x HB2 HR2
 cases hw:wellB l with
 | false =>
  have HX:=Hd (HNO.out _ w3 (fill_tree HZ.out hw) HB3.out)
  clear hw
  go_wp2_with fail
  exact HX.out
 | true =>
 have HW:=Hd hw
 clear hw
 have HBD:=Hd (HB3.out.drew)
 have C4x:=Hd (C4.out HW.out w3.drew HBD.out)
 have HS:RowKit.Hid (∀ W,Below w3.heap.size w3 W→(fun W=>W.cell? ⟨gr,0,none⟩=some (.string r.nm)∧W.cell? ⟨gr,1,none⟩=some (.int .u8 (r.goal:Int))∧W.cell? ⟨gr,2,none⟩=some (.slice ah r.holes.length ch)∧W.cell? ⟨gr,3,none⟩=some (.slice af r.fnd.length cf)∧W.cell? ⟨gr,4,none⟩=some (.slice ab r.by'.length cb)) W):=Hd fun W hb=>(HR3.out.below hb).cells
 go_upto_region 6 with (fail)
 have HDR:=Hd ((Below.refl w3.heap.size w3).drew)
 go_region_held3 (fun W=>W.cell? ⟨gr,0,none⟩=some (.string r.nm)∧W.cell? ⟨gr,1,none⟩=some (.int .u8 (r.goal:Int))∧W.cell? ⟨gr,2,none⟩=some (.slice ah r.holes.length ch)∧W.cell? ⟨gr,3,none⟩=some (.slice af r.fnd.length cf)∧W.cell? ⟨gr,4,none⟩=some (.slice ab r.by'.length cb)) (first | exact HS.out _ HDR.out | exact HS.out _ HB4.out | exact HS.out _ (bthen HB4.out ((Below.refl _ _).alloc (Nat.le_refl _) _))) ((go_at_call 17;(with_reducible refine C4x.out.mono ?_);intro e w4 h4;unfold ends2Post at h4;obtain ⟨ve,rfl,hb4,ho4⟩:=h4;obtain ⟨ea,ec,rfl,hec⟩:=Row.shape (Row.of_owns ho4);have HB4:=Hd (bthen HDR.out hb4);have HO4:RowKit.Hid (RowInts w4 (.slice ea l.length ec) .i64 (endsL l)):=Hd (RowInts.of_owns ho4);clear hb4 ho4;(try dsimp only)))
 clear C4 C4x
 have HB4w:=Hd (bthen HB3.out HB4.out)
 have HBA:=Hd ((Below.refl w4.heap.size w4).alloc (Nat.le_refl _) (.cells #[.string r.nm,.int .u8 (r.goal:Int),.slice ah r.holes.length ch,.slice af r.fnd.length cf,.slice ab r.by'.length cb,.slice al l.length cl,.slice ea l.length ec,.slice aq bs.length cq,.slice none 0 0,.slice none 0 0,.bool false] 56))
 obtain ⟨E,hE⟩:∃ E:MkE,E=⟨r,l,bs,w4.heap.size,w4.heap.size+1,56,.slice ah r.holes.length ch,.slice af r.fnd.length cf,.slice ab r.by'.length cb,.slice al l.length cl,.slice ea l.length ec,.slice aq bs.length cq⟩:=⟨_,rfl⟩
 have hFm:RowKit.Hid (rightB r l bs=true→MkF w4 E):=Hd fun ht=>by
  subst hE
  exact ⟨(HIN.out.below HB4w.out).H,(HIN.out.below HB4w.out).B,HLR.out.below HB4w.out,HO4.out,HRB.out.below HB4w.out,HSM.out,HSL.out,HZ.out,HW.out,ht⟩
 have hIm:RowKit.Hid (MkIn w4 E [] false (.slice none 0 0) (.slice none 0 0) (w4.alloc (.cells #[.string r.nm,.int .u8 (r.goal:Int),.slice ah r.holes.length ch,.slice af r.fnd.length cf,.slice ab r.by'.length cb,.slice al l.length cl,.slice ea l.length ec,.slice aq bs.length cq,.slice none 0 0,.slice none 0 0,.bool false] 56))):=Hd (by
  subst hE
  exact ⟨(Below.refl _ _).alloc (Nat.le_refl _) _,heap_alloc_new _ _,World.ownsRow_nil _ _ _ _,World.ownsRow_nil _ _ _ _,Nat.le_refl _,Nat.lt_succ_self _,by simp⟩)
 have HG:RowKit.Hid (E.g=w4.heap.size∧E.r=r∧E.l=l∧E.bs=bs):=Hd (by subst hE;exact ⟨rfl,rfl,rfl,rfl⟩)
 have HEV:RowKit.Hid (E.ve=.slice ea l.length ec):=Hd (by subst hE;rfl)
 have HBW5:=Hd (bthen HB4w.out HBA.out)
 have C3x:=Hd (C3.out HZ.out HW.out (.slice ea l.length ec) (w4.alloc (.cells #[.string r.nm,.int .u8 (r.goal:Int),.slice ah r.holes.length ch,.slice af r.fnd.length cf,.slice ab r.by'.length cb,.slice al l.length cl,.slice ea l.length ec,.slice aq bs.length cq,.slice none 0 0,.slice none 0 0,.bool false] 56)).drew HBW5.out.drew (HO4.out.below (HBA.out.drew)))
 have HS5:RowKit.Hid (∀ W,Below (w4.alloc (.cells #[.string r.nm,.int .u8 (r.goal:Int),.slice ah r.holes.length ch,.slice af r.fnd.length cf,.slice ab r.by'.length cb,.slice al l.length cl,.slice ea l.length ec,.slice aq bs.length cq,.slice none 0 0,.slice none 0 0,.bool false] 56)).heap.size (w4.alloc (.cells #[.string r.nm,.int .u8 (r.goal:Int),.slice ah r.holes.length ch,.slice af r.fnd.length cf,.slice ab r.by'.length cb,.slice al l.length cl,.slice ea l.length ec,.slice aq bs.length cq,.slice none 0 0,.slice none 0 0,.bool false] 56)) W→(fun W=>W.cell? ⟨gr,0,none⟩=some (.string r.nm)∧W.cell? ⟨gr,1,none⟩=some (.int .u8 (r.goal:Int))∧W.cell? ⟨gr,2,none⟩=some (.slice ah r.holes.length ch)∧W.cell? ⟨gr,3,none⟩=some (.slice af r.fnd.length cf)∧W.cell? ⟨gr,4,none⟩=some (.slice ab r.by'.length cb)) W):=Hd fun W hb=>HS.out W (bthen (bthen HB4.out HBA.out) hb)
 obtain ⟨gm,hgm⟩:∃ gm,w4.heap.size=gm:=⟨_,rfl⟩
 have HGM:=Hd hgm
 go_upto_region 7 with (fail)
 rw [hgm]
 rw [hgm] at HG
 clear hgm hE
 generalize w4.alloc (.cells #[.string r.nm,.int .u8 (r.goal:Int),.slice ah r.holes.length ch,.slice af r.fnd.length cf,.slice ab r.by'.length cb,.slice al l.length cl,.slice ea l.length ec,.slice aq bs.length cq,.slice none 0 0,.slice none 0 0,.bool false] 56)=W5 at *
 obtain ⟨e0,e1,e2,e3,e4⟩:=HS5.out W5.drew (Below.refl _ _).drew
 obtain ⟨m0,m1,m2,m3,m4,m5,m6,m7,m8,m9,m10,mz⟩:=(hIm.out.below (Below.refl _ _).drew).s.cells
 rw [HG.out.1,HEV.out] at m6
 clear m0 m1 m2 m3 m4 m5 m7 m8 m9 m10 mz C3
 go_still_tail 7,(by kernel_rfl)
 change wpList _ _ _ _ _ W5.drew
 go_wp2_with fail
 refine C3x.out.mono ?_
 rintro e w6 ⟨rfl,hb6⟩
 have HB56:=Hd (bthen (Below.refl W5.heap.size W5).drew hb6)
 have HBW6:=Hd (bthen HBW5.out HB56.out)
 have HI6:=Hd (hIm.out.below HB56.out)
 clear hb6 C3x e0 e1 e2 e3 e4 m6 hIm
 cases hrt:rightB r l bs with
 | false =>
  have HX:=Hd (HNO.out _ w6 (fill_arg HZ.out HW.out hrt) HBW6.out)
  clear hrt
  go_wp2_with fail
  exact HX.out
 | true =>
 have HRT:=Hd hrt
 have hF:=hFm.out hrt
 clear hrt
 have CM:=Hd (mk_make w4 E hF w6 HI6.out)
 rw [HG.out.1] at CM
 clear hF hFm
 go_wp2_with fail
 refine CM.out.mono ?_
 intro e W7 h7
 unfold madePost at h7
 rw [HG.out.2.1,HG.out.2.2.1,HG.out.2.2.2] at h7
 obtain ⟨ov,fv,kz,rfl,hb7,hm7,hk7⟩:=h7
 have HB7:=Hd (bthen HB4w.out hb7)
 clear hb7 CM HI6
 by_cases hlong:131072<(outP r l bs).length
 case pos =>
  have HX:=Hd (HNO.out _ W7 (fill_long HZ.out HW.out HRT.out hlong) HB7.out)
  rw [decide_eq_true hlong] at hm7
  have c10:=hm7.cells.2.2.2.2.2.2.2.2.2.2.1
  rw [HG.out.1] at c10
  clear hlong hm7 hk7
  go_wp2_with fail
  exact HX.out
 obtain ⟨-,hrows⟩:=hk7 (by omega)
 rw [decide_eq_false hlong] at hm7
 have HFO:=Hd (fill_ok HZ.out HW.out HRT.out hlong)
 have hol:(outP r l bs).length≤131072:=by omega
 have c10:=hm7.cells.2.2.2.2.2.2.2.2.2.2.1
 rw [HG.out.1] at c10
 have HC8:RowKit.Hid (∀ W,Below W7.heap.size W7 W→W.cell? ⟨gm,8,none⟩=some ov∧W.cell? ⟨gm,9,none⟩=some fv):=Hd fun W hb=>by
  have hm:mkB E ov fv false W:=keeps hb hm7
  have h:=hm.cells
  rw [HG.out.1] at h
  exact ⟨h.2.2.2.2.2.2.2.2.1,h.2.2.2.2.2.2.2.2.2.1⟩
 obtain ⟨r1,r2⟩:=hrows W7.drew (Above.of_below (Below.refl _ _).drew)
 obtain ⟨oa,oc,rfl,hoc⟩:=r1.slice
 obtain ⟨fa,fc,rfl,hfc,-⟩:=r2.open'
 have T0:TwoR W7.heap.size W7 [] [] (.slice none 0 0) (.slice none 0 0) W7.drew:=TwoR.start (Below.refl _ _).drew (Nat.le_refl _)
 obtain ⟨v1,w8,hap1,t1⟩:=T0.moreO r1 (by simp) (by rw [List.length_map];omega)
 obtain ⟨v2,w9,hap2,t2⟩:=t1.moreN (hrows w8 (Above.of_below t1.b)).2 (by simp) (by rw [List.length_map];omega)
 rw [List.nil_append,List.nil_append] at t2
 rw [List.length_map] at hap1 hap2
 have HAP1:=Hd hap1
 have HAP2:=Hd hap2
 have HX:=Hd (HYES.out w9 v1 v2 HFO.out (bthen HB7.out t2.b) t2.oRow t2.nRow)
 rw [List.length_map,List.length_map] at HC8
 have hS0:=HC8.out W7.drew (Below.refl _ _).drew
 have hS1:=HC8.out w8 t1.b
 clear hap1 hap2 t1 t2 T0 r1 r2 hrows hm7 hk7 hoc hfc
 go_upto_region 12 with (fail)
 clear c10
 refine wp_region_until (S:=fun W=>W.cell? ⟨gm,8,none⟩=some (.slice oa (outP r l bs).length oc)∧W.cell? ⟨gm,9,none⟩=some (.slice fa (outP r l bs).length fc)) [9] (by kernel_rfl) ?_
 generalize W7.drew=wd at *
 refine tkF 0 41 ?vq1 rfl (by kernel_rfl) (fun _ _ _ h=>h) (Or.inl ⟨by kernel_rfl,?hyq1⟩) (fun _=>hS0) ?restq1
 case hyq1=>intro w hSw;clear hSw;go_simp;(try with_reducible rfl)
 (try simp only [aP])
 refine tkF 1 42 ?vq2 rfl (by kernel_rfl) (fun _ _ _ h=>h) (Or.inl ⟨by kernel_rfl,?hyq2⟩) (fun _=>hS0) ?restq2
 case hyq2=>intro w hSw;clear hSw;go_simp;(try with_reducible rfl)
 (try simp only [aP])
 refine tkF 2 43 ?vq3 rfl (by kernel_rfl) (fun _ _ _ h=>h) (Or.inl ⟨by kernel_rfl,?hyq3⟩) (fun _=>hS0) ?restq3
 case hyq3=>intro w hSw;clear hSw;go_simp;(try with_reducible rfl)
 (try simp only [aP])
 refine tkU [9,4] 3 44 ?vq4 rfl (by kernel_rfl) (fun _ _ _ h=>h) (Or.inl ⟨by kernel_rfl,?hyq4⟩) hS0 ?restq4
 case hyq4=>intro w hSw;(try dsimp only at hSw);go_simp;(try with_reducible rfl)
 (try simp only [aP])
 refine tkF 5 46 ?vq5 rfl (by kernel_rfl) (fun _ _ _ h=>h) (Or.inl ⟨by kernel_rfl,?hyq5⟩) (fun _=>hS0) ?restq5
 case hyq5=>intro w hSw;clear hSw;go_simp;(try with_reducible rfl)
 (try simp only [aP])
 refine tkF 6 47 ?vq6 rfl (by kernel_rfl) (fun _ _ _ h=>h) (Or.inl ⟨by kernel_rfl,?hyq6⟩) (fun _=>hS0) ?restq6
 case hyq6=>intro w hSw;clear hSw;go_simp;(try with_reducible rfl)
 (try simp only [aP])
 refine tkF 7 48 ?vq7 rfl (by kernel_rfl) (fun _ _ _ h=>h) (Or.inl ⟨by kernel_rfl,?hyq7⟩) (fun _=>hS0) ?restq7
 case hyq7=>intro w hSw;clear hSw;go_simp;(try with_reducible rfl)
 (try simp only [aP])
 refine tkU [9] 8 49 ?vq8 rfl (by kernel_rfl) (fun _ _ _ h=>h) (Or.inl ⟨by kernel_rfl,?hyq8⟩) hS0 ?restq8
 case hyq8=>intro w hSw;(try dsimp only at hSw);go_simp;(try with_reducible rfl)
 (try simp only [aP])
 refine wpAnyU_ready (rs:=[4]) (by kernel_rfl) (by simp) ?_
 refine AllReadyU.cons (o:=⟨some 45,_,_,_,_,_⟩) rfl (fun K hK=>?_) AllReadyU.nil
 refine oper_append_runC _ _ _ _ HAP1.out rfl rfl rfl rfl ?_
 refine hK.out _ _ (fun _=>hS1) ?_
 clear hK K
 (try simp only [aP])
 refine wpAnyU_ready (rs:=[9]) (by kernel_rfl) (by simp) ?_
 refine AllReadyU.cons (o:=⟨some 50,_,_,_,_,_⟩) rfl (fun K hK=>?_) AllReadyU.nil
 refine oper_append_runC _ _ _ _ HAP2.out rfl rfl rfl rfl ?_
 refine hK.out _ _ (fun h=>Bool.noConfusion (h.symm.trans (by kernel_rfl:_=false))) ?_
 clear hK K
 (try simp only [aP])
 refine wpAnyU_ready (rs:=[10]) (by kernel_rfl) (by simp) ?_
 refine AllReadyU.cons (o:=⟨some 6,_,_,_,_,_⟩) rfl (fun K hK=>?_) AllReadyU.nil
 go_simp
 refine hK.out _ _ (fun h=>Bool.noConfusion (h.symm.trans (by kernel_rfl:_=false))) ?_
 clear hK K
 (try simp only [aP])
 refine wpAnyU_ready (rs:=[11]) (by kernel_rfl) (by simp) ?_
 refine AllReadyU.cons (o:=⟨some 7,_,_,_,_,_⟩) rfl (fun K hK=>?_) AllReadyU.nil
 go_simp
 refine hK.out _ _ (fun h=>Bool.noConfusion (h.symm.trans (by kernel_rfl:_=false))) ?_
 clear hK K
 (try simp only [aP])
 refine wpAnyU_ready (rs:=[12]) (by kernel_rfl) (by simp) ?_
 refine AllReadyU.cons (o:=⟨some 8,_,_,_,_,_⟩) rfl (fun K hK=>?_) AllReadyU.nil
 go_simp
 refine hK.out _ _ (fun h=>Bool.noConfusion (h.symm.trans (by kernel_rfl:_=false))) ?_
 clear hK K
 (try simp only [aP])
 refine wpAnyU_done (by kernel_rfl) ?_ _
 clear hS0 hS1
 go_wp2_with fail
 exact HX.out
end Go.Proofs.YtmklemelgdilkaaGreatDoor
namespace Go.Proofs.YtmklemelgdilkaaGreatDoor
set_option linter.all false
attribute [local irreducible] Calls
attribute [local irreducible] wpStill
open Go.RowKit

theorem Tinfo_mk:(Tryz.prog.info? 54).map (fun i=>(i.zero,i.size,i.bytes))=some (some (.pointer none),1,8):=by kernel_rfl
theorem Tmake_mks (n:Nat) (hn:n≤1000000000) (w:World) :
  (Instr.makeSlice 52 (.int .i64 (n:Int)) (.int .i64 (n:Int))).run Tryz.prog w=.ok (.slice (some ⟨w.heap.size,0,none⟩) n n) (w.alloc (.cells (List.replicate n (Value.pointer none)).toArray 54)):=by
 obtain ⟨i,hi,hz,hsz,hb⟩:=info_parts Tinfo_mk
 have hr:=run_make (P:=Tryz.prog) w 52 54 i (.pointer none) Tryz.underlying52 hi hz .i64 .i64 (n:Int) (n:Int) (by omega) (Int.le_refl _) (by rw [hb];omega) (by omega)
 rw [hsz] at hr
 have e:madeCells (Value.pointer none).cells ((n:Int).toNat*1)=(List.replicate n (Value.pointer none)).toArray:=by
  apply Array.ext'
  rw [Int.toNat_natCast,Nat.mul_one]
  show (madeCells #[.pointer none] n).toList=_
  rw [toList_madeCells_one]
 rw [e] at hr
 rw [hr]
 simp only [Int.toNat_natCast]
set_option maxRecDepth 100000 in
set_option maxHeartbeats 32000000 in
theorem fill_Step (rs:List RuleX) (hs:∀ x∈rs,SmallR x.1) (l:List Prt) (sl:SmallL l) (P:List PkX) (sp:P.length≤1048576∧∀ x∈P,x.1.2.2.length≤1048576) (vr vl vp:Value) (w:World) (hT:Tabs w) (hM:MaxC w) (hr:RulesIn w vr rs) (hlr:PartRow w vl l) (hp:PicksIn w vp P) :
  Calls Tryz.prog 7 #[vr,vl,vp] w (stepPost (rs.map (·.1)) l (P.map (·.1)) w):=by
 obtain ⟨Q,hQ⟩:∃ Q,stepPost (rs.map (·.1)) l (P.map (·.1)) w=Q:=⟨_,rfl⟩
 have HQ:RowKit.Hid (∀ e w',stepPost (rs.map (·.1)) l (P.map (·.1)) w e w'→Q e w'):=Hd fun e w' h=>by rw [← hQ];exact h
 have HNO:RowKit.Hid (∀ w' (z:Int),stepZ (rs.map (·.1)) l (P.map (·.1))=([],z)→Below w.heap.size w w'→Q (.returned (.tuple #[.slice none 0 0,.slice none 0 0,.int .i64 z])) w'):=Hd fun w' z h hb=>HQ.out _ _ (stepPost.no h hb)
 rw [hQ]
 clear hQ
 have hll:=sl.1
 have hpl:=sp.1
 have CC:=Hd (fill_check rs hs l hll vr vl w hT hM hr hlr)
 obtain ⟨ar,cr,rfl,hcr⟩:=hr.shape
 obtain ⟨ap,cp,rfl,hcp⟩:=hp.shape
 have HR:=Hd hr
 have HL:=Hd hlr
 have HP:=Hd hp
 have HS:=Hd hs
 have HSL:=Hd sl
 have HSP:=Hd sp
 have HMX:=Hd hM
 obtain ⟨la,lc,rfl,hlc⟩:=hlr.slice
 clear hr hlr hp hs sl sp hT hM
 go_enter Tryz.func7,Tryz.ntmps7
 go_wp2_with fail
 refine CC.out.mono ?_
 rintro e w1 ⟨rfl,hb1⟩
 have HB1:=Hd hb1
 clear hb1 CC
 by_cases hz:findErr (rs.map (·.1)) l=0
 case neg =>
  have HZ:=Hd (HNO.out w1 _ (by unfold stepZ;rw [if_pos hz]) HB1.out)
  have g1:(findErr (rs.map (·.1)) l != 0)=true:=by rw [bne_iff_ne];exact hz
  have g2:(findErr (rs.map (·.1)) l == 0)=false:=by rw [beq_eq_false_iff_ne];exact hz
  clear hz
  generalize findErr (rs.map (·.1)) l=z at *
  go_wp2_with fail
  exact HZ.out
 have HZ:=Hd hz
 have hwl:=(findErr_zero.1 hz).1
 have HWL:=Hd hwl
 have CE:=Hd (fill_ends l (by omega) _ (well_rows hwl) _ w1 (HL.out.below HB1.out))
 obtain ⟨lb,lo,rfl,y1,y2,y3,y4⟩:=HL.out.at (Below.refl _ _) (well_zero hwl).1
 rw [hz]
 clear hz hwl y1 y2 y3 y4
 go_wp2_with fail
 refine CE.out.mono ?_
 intro e w2 h2
 unfold ends2Post at h2
 obtain ⟨ve,rfl,hb2,ho2⟩:=h2
 obtain ⟨ea,en,ec,rfl⟩:=owns_slice ho2
 obtain rfl:en=l.length:=by
  obtain ⟨_,_,_,e,_⟩:=Row.of_owns ho2
  simp only [Value.slice.injEq] at e
  exact e.2.1
 obtain ⟨eb,rfl⟩:=ownsRow_some ho2 (well_zero HWL.out).1
 have HO2:=Hd ho2
 have HB2:=Hd (bthen HB1.out hb2)
 have hri:RowInts w2 (.slice (some ⟨eb,0,none⟩) l.length ec) .i64 (endsL l):=RowInts.of_owns ho2
 have CU:=Hd (fill_ups l (by omega) HWL.out _ _ w2 (HL.out.below HB2.out) hri)
 clear hb2 ho2 CE hri
 go_wp2_with fail
 refine CU.out.mono ?_
 intro e w3 h3
 unfold fupsPost at h3
 obtain ⟨vu,rfl,hb3,ho3⟩:=h3
 obtain ⟨ua,un,uc,rfl⟩:=owns_slice ho3
 obtain rfl:un=l.length:=by
  obtain ⟨_,_,_,e,_⟩:=Row.of_owns ho3
  simp only [Value.slice.injEq] at e
  exact e.2.1
 obtain ⟨ub,rfl⟩:=ownsRow_some ho3 (well_zero HWL.out).1
 have HO3:=Hd ho3
 have HO2':=Hd (owns_below HO2.out hb3)
 have HB3:=Hd (bthen HB2.out hb3)
 clear hb3 ho3 CU HO2
 have hmk1:=Tmake_ints l.length (by omega)
 have hmk2:=Tmake_mks P.length (by omega)
 have HW6:RowKit.Hid (∀ w4 w6,w4=w3.alloc (.cells (Array.replicate l.length (Value.int .i64 0)) 3)→w6=w4.alloc (.cells (Array.replicate P.length (Value.pointer none)) 54)→w4.heap.size=w3.heap.size+1 ∧
   StF w w6 rs l P (.slice ar rs.length cr) (.slice (some ⟨lb,lo,none⟩) l.length lc) (.slice ap P.length cp) (.slice (some ⟨eb,0,none⟩) l.length ec) (.slice (some ⟨ub,0,none⟩) l.length uc) w3.heap.size (w3.heap.size+1)∧St1 w3.heap.size (w3.heap.size+1) w6 (moreL l []) [] P.length w6):=Hd fun w4 w6 h4 h6=>by
  have s4:w4.heap.size=w3.heap.size+1:=by rw [h4];simp
  have s6:w6.heap.size=w3.heap.size+2:=by rw [h6];simp [s4]
  have b4:Below w3.heap.size w3 w4:=by rw [h4];exact (Below.refl _ _).alloc (Nat.le_refl _) _
  have b6:Below w4.heap.size w4 w6:=by rw [h6];exact (Below.refl _ _).alloc (Nat.le_refl _) _
  have b36:=bthen b4 b6
  have hbw:Below w.heap.size w w6:=bthen HB3.out b36
  have l3:=HB3.out.size
  have g4:w4.heap[w3.heap.size]?=some (.cells (Array.replicate l.length (Value.int .i64 0)) 3 (0,0)):=by rw [h4];exact heap_alloc_new _ _
  have g6:w6.heap[w3.heap.size+1]?=some (.cells (Array.replicate P.length (Value.pointer none)) 54 (0,0)):=by
   have:=heap_alloc_new w4 (.cells (Array.replicate P.length (Value.pointer none)) 54)
   rw [s4] at this
   rw [h6];exact this
  refine ⟨s4,⟨HR.out,HL.out,HP.out,(RowInts.of_owns HO2'.out).below b36,(RowInts.of_owns HO3.out).below b36,fun b e=>?_,fun b e=>?_,hbw,l3,by omega,fun x hx=>⟨HS.out x hx,?_⟩,HWL.out,HSL.out,HSP.out⟩,⟨rfl,rfl,rfl,Nat.le_refl _,fun _ _ _ _=>rfl,?_,⟨_,g6,by simp,fun j hj=>by simp at hj⟩,by omega,by omega,by omega⟩⟩
  ·have:=(HO2'.out.lt b e).2;omega
  ·have:=(HO3.out.lt b e).2;omega
  ·exact (findErr_zero.1 HZ.out).2.2 x.1 (List.mem_map.2 ⟨x,hx,rfl⟩)
  ·rw [keeps b6 g4,moreL_nil,List.map_replicate,List.toArray_replicate]
 go_upto_block 0 with (fail)
 rename_i hK'
 generalize hw4:w3.alloc (.cells (Array.replicate l.length (Value.int .i64 0)) 3)=w4 at *
 generalize hw6:w4.alloc (.cells (Array.replicate P.length (Value.pointer none)) 54)=w6 at *
 obtain ⟨hs4,hF,hSt⟩:=HW6.out w4 w6 rfl hw6.symm
 have hb36:Below w.heap.size w w6:=hF.b6
 have HERR:RowKit.Hid (∀ (z:Int) w',stepErr (rs.map (·.1)) l (P.map (·.1)) 0 l.length=z→z≠0→Below w.heap.size w w'→Q (.returned (.tuple #[.slice none 0 0,.slice none 0 0,.int .i64 z])) w'):=Hd fun z w' h h0 hb=>HNO.out w' z (by
  unfold stepZ
  rw [if_neg (by rw [HZ.out];simp),if_pos (by show stepErr _ _ _ 0 _≠0;rw [h];exact h0)]
  show ([],stepErr _ _ _ 0 _)=_
  rw [h]) hb
 exact st_loop1 _ _ _ _ _ _ _ _ _ _ _ _ _ _ _ _ _ _ _ _ _ _ _ _ _ _ _ _ _ _ _ _ _ _ _ _ _ _ _ _ _ _ _ _ _ _ _ _ _ _ _ _ _ _ _ _ _ _ _ _ _ _ _ _ _ _ _ _ _ _ _ _ _ _ _ _ _ _ _ _ _ _ _ _ _ _ _ _ _ _ _ _ _ _ _ _ _ _ _ _ _ _ _ _ _ _ _ _ _ _ _ _ _ _ _ _ _ _ _ _ _ _ _ _ _ _ _ _ _ _ _ _ _ _ _ _ _ _ _ _ _ _ _ _ _ _ _ _ _ _ _ _ _ _ _ _ _ _ _ _ _ _ _ _ _ _ _ _ _ _ _ _ _ _ _ _ _ _ _ _ _ _ _ _ _ _ _ _ _ _ _ _ _ _ _ _ _ _ _ _ _ _ _ _ _ _ _ _ _ _ _ _ _ _ _ _ _ _ _ rs l P ar cr lb lo lc ap cp eb 0 ec ub 0 uc w3.heap.size (w3.heap.size+1) w w6 Q hF (Hd hSt) HERR _ (Hd (fun v3 v4 v5 v6 v7 v8 v9 v14 v16 v17 v18 v19 v20 v21 v22 v23 v24 v25 v26 v27 v28 v29 v30 v31 v32 v33 v34 v35 v36 v37 v38 v39 v40 v41 v42 v43 v44 v45 v46 v47 v48 v49 v50 v51 v52 v53 v54 v55 v56 v57 v58 v59 v60 v61 v62 v63 v64 v65 v66 v67 v68 v69 v70 v71 v72 v73 v74 v75 v76 v77 v78 v79 v80 v81 v82 v83 v84 v85 v86 v87 v88 v89 v90 v91 v92 v93 v94 v95 v96 v97 v98 v99 v100 v101 v102 v103 v104 v105 v106 v107 v108 v109 v110 v111 v112 v113 v114 v115 v116 v117 v118 v119 v120 v121 v122 v123 v124 v125 v126 v127 v128 v129 v130 v131 v132 v133 v134 v135 v136 v137 v138 v139 v140 v141 v142 v143 v144 v145 v146 v147 v148 v149 v150 v151 v152 v153 v154 v155 v156 v157 v158 v159 v160 v161 v162 v163 v164 v165 v166 v167 v168 v169 v170 v171 v172 v173 v174 v175 v176 v177 v178 v179 v180 v181 v182 v183 v184 v185 v186 v187 v188 v189 v190 v191 v192 v193 v194 v195 v196 v197 v198 v199 v200 v201 v202 v203 v204 v205 v206 v207 v208 v209 v210 v211 v212 v213 v214 v215 v216 v217 v218 v219 v220 v221 v222 v223 v224 v225 v226 v227 v228 v229 v230 size wr h1 h2 h3=>hK' _ _ (st_tail v3 v4 v5 v6 v7 v8 v9 v14 v16 v17 v18 v19 v20 v21 v22 v23 v24 v25 v26 v27 v28 v29 v30 v31 v32 v33 v34 v35 v36 v37 v38 v39 v40 v41 v42 v43 v44 v45 v46 v47 v48 v49 v50 v51 v52 v53 v54 v55 v56 v57 v58 v59 v60 v61 v62 v63 v64 v65 v66 v67 v68 v69 v70 v71 v72 v73 v74 v75 v76 v77 v78 v79 v80 v81 v82 v83 v84 v85 v86 v87 v88 v89 v90 v91 v92 v93 v94 v95 v96 v97 v98 v99 v100 v101 v102 v103 v104 v105 v106 v107 v108 v109 v110 v111 v112 v113 v114 v115 v116 v117 v118 v119 v120 v121 v122 v123 v124 v125 v126 v127 v128 v129 v130 v131 v132 v133 v134 v135 v136 v137 v138 v139 v140 v141 v142 v143 v144 v145 v146 v147 v148 v149 v150 v151 v152 v153 v154 v155 v156 v157 v158 v159 v160 v161 v162 v163 v164 v165 v166 v167 v168 v169 v170 v171 v172 v173 v174 v175 v176 v177 v178 v179 v180 v181 v182 v183 v184 v185 v186 v187 v188 v189 v190 v191 v192 v193 v194 v195 v196 v197 v198 v199 v200 v201 v202 v203 v204 v205 v206 v207 v208 v209 v210 v211 v212 v213 v214 v215 v216 v217 v218 v219 v220 v221 v222 v223 v224 v225 v226 v227 v228 v229 v230 size wr rs l P ar cr lb lo lc ap cp eb 0 ec ub 0 uc w3.heap.size (w3.heap.size+1) w w6 Q hF h1 h2 h3 HZ.out (HMX.out.below (h3.toBelow hb36 hF.g1 hF.g2)) HQ)))
end Go.Proofs.YtmklemelgdilkaaGreatDoor
