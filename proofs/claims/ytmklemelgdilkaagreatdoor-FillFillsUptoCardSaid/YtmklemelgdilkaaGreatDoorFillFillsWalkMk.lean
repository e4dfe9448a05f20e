/- The statement FillFills, walked: the call returns true. -/
import Derived.Test.YtmklemelgdilkaaGreatDoorFillFilMk
import Derived.Test.YtmklemelgdilkaaGreatDoorMakNMk
import Derived.Test.YtmklemelgdilkaaGreatDoorFix20Mk
import Derived.Test.YtmklemelgdilkaaGreatDoorFillPMk
namespace Go.Proofs.YtmklemelgdilkaaGreatDoor
set_option linter.all false
attribute [local irreducible] Calls
open Go.RowKit

set_option maxRecDepth 100000 in
set_option maxHeartbeats 16000000 in
theorem FillFills_walk (w:World) (x:RuleX) (hin:RuleIn w x.1 x.2.1 x.2.2.1 x.2.2.2) (hsx:SmallR x.1) (vl:Value) (l:List Prt) (hlr:PartRow w vl l) (hl:SmallL l) (vq:Value) (bs:List Bnd) (hrb:BindRow w vq bs) (hbl:bs.length≤1048576) (hH:HeldM w) :
  Calls Tryz.prog 4 #[ruleAgg x.1 x.2.1 x.2.2.1 x.2.2.2,vl,vq] w (AnswersM w):=by
 have HQ:RowKit.Hid (∀ w',Below w.heap.size w w'→AnswersM w (.returned (.bool true)) w'):=Hd fun w' h=>AnswersM.mk h
 generalize AnswersM w=Q at *
 obtain ⟨r,vh,vf,vb⟩:=x
 simp only [] at hin hsx ⊢
 have hll:=hl.1
 have CF:=Hd (fun w' (hb:Below w.heap.size w w')=>law20_fixed w' (hH.T.below hb) (hH.M.below hb))
 have C1:=Hd (fun W (hb:Below w.heap.size w W)=>fill_Fill r hsx vh vf vb l hl vl vq bs hbl W (hH.T.below hb) (hH.M.below hb) (hin.below hb) (hlr.below hb) (hrb.below hb))
 have C2:=Hd (fun W (hb:Below w.heap.size w W)=>ref_Fill r hsx vh vf vb l hl vl vq bs hbl W (hin.below hb) (hlr.below hb) (hrb.below hb))
 have CG:=Hd (fun vr W (hb:Below w.heap.size w W) (hr:RulesIn W vr [(r,vh,vf,vb)])=>law20_great [(r,vh,vf,vb)] (fun x hx=>by rw [List.mem_singleton.1 hx];exact hsx) (by show 1≤1048576;omega) vr l hll vl [] (Nat.zero_le _) (.slice none 0 0) W hr (hlr.below hb) ⟨Row.of_owns (World.ownsRow_nil _ 0 41 3),fun x hx=>by cases hx⟩)
 obtain ⟨ah,ch,rfl,hch⟩:=Row.shape hin.H
 obtain ⟨af,cf,rfl,hcf⟩:=hin.F.slice
 obtain ⟨ab,cb,rfl,hcb⟩:=hin.B.slice
 have hfz:∀ z,(fillZ r l bs).1=z→z.length≤131072:=fun z hz=>by
  subst hz
  unfold fillZ
  split
  ·simp
  ·split
   ·simp
   ·split
    ·simp
    ·split
     ·simp
     ·rename_i h;simp only [];omega
 have HIN:=Hd hin
 have HR1:RowKit.Hid (RK (w.alloc (.cells #[.string r.nm,.int .u8 (r.goal:Int),.slice ah r.holes.length ch,.slice af r.fnd.length cf,.slice ab r.by'.length cb] 35)) w.heap.size r.nm r.goal (.slice ah r.holes.length ch) (.slice af r.fnd.length cf) (.slice ab r.by'.length cb)):=Hd (heap_alloc_new _ _)
 have HB1:RowKit.Hid (Below w.heap.size w (w.alloc (.cells #[.string r.nm,.int .u8 (r.goal:Int),.slice ah r.holes.length ch,.slice af r.fnd.length cf,.slice ab r.by'.length cb] 35))):=Hd ((Below.refl _ _).alloc (Nat.le_refl _) _)
 clear hin hlr hrb hsx hl hH
 unfold ruleAgg at C1 C2 ⊢
 go_enter Tryz.func4,Tryz.ntmps4
 go_upto_region 1 with (fail)
 generalize w.alloc (.cells #[.string r.nm,.int .u8 (r.goal:Int),.slice ah r.holes.length ch,.slice af r.fnd.length cf,.slice ab r.by'.length cb] 35)=W1 at *
 obtain ⟨gr,hgr⟩:∃ gr,w.heap.size=gr:=⟨_,rfl⟩
 rw [hgr] at HR1 ⊢
 clear hgr
 obtain ⟨e0,e1,e2,e3,e4⟩:=HR1.out.cells
 have HBA:=Hd ((Below.refl W1.heap.size W1).alloc (Nat.le_refl _) (.cells #[.string r.nm,.int .u8 (r.goal:Int),.slice ah r.holes.length ch,.slice af r.fnd.length cf,.slice ab r.by'.length cb] 35))
 have HB2:=Hd (bthen HB1.out HBA.out)
 have HRS:RowKit.Hid (RulesIn (W1.alloc (.cells #[.string r.nm,.int .u8 (r.goal:Int),.slice ah r.holes.length ch,.slice af r.fnd.length cf,.slice ab r.by'.length cb] 35)) (.slice (some ⟨W1.heap.size,0,none⟩) 1 1) [(r,.slice ah r.holes.length ch,.slice af r.fnd.length cf,.slice ab r.by'.length cb)]):=Hd ⟨lit_rowG W1 #[.string r.nm,.int .u8 (r.goal:Int),.slice ah r.holes.length ch,.slice af r.fnd.length cf,.slice ab r.by'.length cb] 35 1 5 rfl,fun x hx=>by
  rw [List.mem_singleton.1 hx];exact HIN.out.below HB2.out⟩
 have CGx:=Hd (CG.out _ _ HB2.out HRS.out)
 have HR2:=Hd (HR1.out.below HBA.out)
 go_wp2_with fail
 refine CGx.out.mono ?_
 intro e w3 h3
 obtain ⟨y,rfl,hb3⟩:=h3.out
 have HB3:=Hd (bthen HB2.out hb3)
 have HR3:=Hd (HR2.out.below hb3)
 clear h3 hb3 CG CGx e0 e1 e2 e3 e4
 cases y with
 | true =>
  go_wp2_with fail
  refine (CF.out w3 HB3.out).mono ?_
  rintro e wZ ⟨rfl,hbZ⟩
  have HX:=Hd (HQ.out wZ (bthen HB3.out hbZ))
  clear hbZ
  go_wp2_with fail
  exact HX.out
 | false =>
 obtain ⟨e0,e1,e2,e3,e4⟩:=HR3.out.cells
 have C1x:=Hd (C1.out w3 HB3.out)
 go_wp2_with fail
 refine C1x.out.mono ?_
 intro e w4 h4
 unfold fillPost at h4
 obtain ⟨hb4,ov,nv,rfl,ho4,hn4⟩:=h4
 have HB4:=Hd (bthen HB3.out hb4)
 have HR4:=Hd (HR3.out.below hb4)
 have HO4:=Hd ho4
 have HN4:=Hd hn4
 clear hb4 ho4 hn4 C1 C1x e0 e1 e2 e3 e4
 obtain ⟨e0,e1,e2,e3,e4⟩:=HR4.out.cells
 have C2x:=Hd (C2.out w4 HB4.out)
 go_wp2_with fail
 refine C2x.out.mono ?_
 intro e w5 h5
 unfold fillPost at h5
 obtain ⟨hb5,ov2,nv2,rfl,ho5,hn5⟩:=h5
 have HB5:=Hd (bthen HB4.out hb5)
 obtain ⟨Z,hZ⟩:∃ Z,fillZ r l bs=Z:=⟨_,rfl⟩
 have hzl:=hfz _ rfl
 rw [hZ] at HO4 HN4 ho5 hn5 hzl ⊢
 obtain ⟨Zo,Ze⟩:=Z
 simp only [] at HO4 HN4 ho5 hn5 hzl ⊢
 have HO5:=Hd (HO4.out.below hb5)
 have HN5:=Hd (HN4.out.below hb5)
 have HP5:=Hd ho5
 have HM5:=Hd hn5
 clear hb5 ho5 hn5 hZ C2 C2x e0 e1 e2 e3 e4 hfz
 go_wp2_with fail
 refine (CF.out w5 HB5.out).mono ?_
 rintro e w6 ⟨rfl,hb6⟩
 have HB6:=Hd (bthen HB5.out hb6)
 have CS:=Hd (ref_Same11 ov ov2 _ _ (by rw [List.length_map];omega) (by rw [List.length_map];omega) w6 (HO5.out.below hb6) (HP5.out.below hb6))
 have HN6:=Hd (HN5.out.below hb6)
 have HM6:=Hd (HM5.out.below hb6)
 clear hb6
 go_wp2_with fail
 refine CS.out.mono ?_
 rintro e w7 ⟨x,rfl,hx,hb7⟩
 obtain rfl:x=true:=hx.2 rfl
 have HB7:=Hd (bthen HB6.out hb7)
 have CI:=Hd (ref_Ints nv nv2 _ _ (by rw [List.length_map];omega) (by rw [List.length_map];omega) w7 (HN6.out.below hb7) (HM6.out.below hb7))
 rw [decide_eq_true rfl] at CI
 clear hx hb7 CS
 go_wp2_with fail
 refine CI.out.mono ?_
 rintro e wZ ⟨rfl,hbZ⟩
 have HX:=Hd (HQ.out wZ (bthen HB7.out hbZ))
 clear hbZ CI
 go_wp2_with fail
 exact HX.out
end Go.Proofs.YtmklemelgdilkaaGreatDoor
