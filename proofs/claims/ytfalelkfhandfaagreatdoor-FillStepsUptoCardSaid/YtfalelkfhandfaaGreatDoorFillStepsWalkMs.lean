/- The statement FillSteps, walked: the call returns true. -/
import Derived.Test.YtfalelkfhandfaaGreatDoorRefStepMs
import Derived.Test.YtfalelkfhandfaaGreatDoorFix20Ms
import Derived.Test.YtfalelkfhandfaaGreatDoorMakeMs
namespace Go.Proofs.YtfalelkfhandfaaGreatDoor
set_option maxRecDepth 100000
set_option maxHeartbeats 32000000
set_option linter.all false
attribute [local irreducible] Calls
open Go.RowKit

theorem zPz {rs:List RuleM} {l:List Prt} {P:List Pk}:(stepZ rs l P).1.length≤262144:=by
 unfold stepZ
 split
 ·simp
 ·rename_i h1
  split
  ·simp
  ·rename_i h2
   have hw:=(gJ.1 (by simpa using h1)).1
   have h3:=fR hw (show yE rs l P ((0:Nat):Int) l.length=0 by simpa using h2)
   unfold withZ
   split
   ·have:=zJi ((stepOut rs l P).map (·.1)) ((stepOut rs l P).map (·.2))
    rw [List.length_map] at this
    show (guardZ _ _).length≤_
    omega
   ·simp
theorem FillSteps_walk (w:World) (vr:Value) (rs:List RuleX) (hr:xZ w vr rs) (hs:∀ x∈rs,SmallR x.1) (hn:rs.length≤1048576) (vl:Value) (l:List Prt) (hlr:zD w vl l) (hl:SmallL l) (vp:Value) (P:List PkX) (hp:vQ w vp P) (sp:P.length≤1048576∧∀ x∈P,x.1.2.2.length≤1048576) (hH:HeldM w) :
  Calls Tryz.prog 3 #[vr,vl,vp] w (AnswersM w):=by
 have HQ:Hid (∀ w',Below w.heap.size w w'→AnswersM w (.returned (.bool true)) w'):=Hd fun w' h=>AnswersM.mk h
 generalize AnswersM w=Q at *
 have CF:=Hd (fun w' (hb:Below w.heap.size w w')=>zNc w' (hH.T.below hb) (hH.M.below hb))
 have CG:=Hd (zNd rs hs hn vr l hl.1 vl P sp.1 vp w hr hlr hp)
 have C1:=Hd (fun w' (hb:Below w.heap.size w w')=>zKt rs hs l hl P sp vr vl vp w' (hH.T.below hb) (hH.M.below hb) (hr.below hb) (hlr.below hb) (hp.below hb))
 have C2:=Hd (fun w' (hb:Below w.heap.size w w')=>zXv rs hs hn l hl P sp vr vl vp w' (hr.below hb) (hlr.below hb) (hp.below hb))
 have hzl:=zPz (rs:=rs.map (·.1)) (l:=l) (P:=P.map (·.1))
 clear hr hlr hp hs hl hH sp
 go_enter Tryz.func3,Tryz.ntmps3
 go_wp2_with fail
 refine CG.out.mono ?_
 intro e w3 h3
 obtain ⟨y,rfl,hb3⟩:=h3.out
 have HB3:=Hd hb3
 clear h3 hb3 CG
 cases y with
 | true =>
  go_wp2_with fail
  refine (CF.out w3 HB3.out).mono ?_
  rintro e wZ ⟨rfl,hbZ⟩
  have HX:=Hd (HQ.out wZ (zB HB3.out hbZ))
  clear hbZ
  go_wp2_with fail
  exact HX.out
 | false =>
 have C1x:=Hd (C1.out w3 HB3.out)
 go_wp2_with fail
 refine C1x.out.mono ?_
 intro e w4 h4
 unfold yZ at h4
 obtain ⟨hb4,ov,nv,rfl,ho4,hn4⟩:=h4
 have HB4:=Hd (zB HB3.out hb4)
 have HO4:=Hd (Row.of_owns ho4)
 have HN4:=Hd (zI.of_owns hn4)
 clear hb4 ho4 hn4 C1 C1x
 have C2x:=Hd (C2.out w4 HB4.out)
 go_wp2_with fail
 refine C2x.out.mono ?_
 intro e w5 h5
 unfold yZ at h5
 obtain ⟨hb5,ov2,nv2,rfl,ho5,hn5⟩:=h5
 have HB5:=Hd (zB HB4.out hb5)
 obtain ⟨Z,hZ⟩:∃ Z,stepZ (rs.map (·.1)) l (P.map (·.1))=Z:=⟨_,rfl⟩
 rw [hZ] at HO4 HN4 ho5 hn5 hzl ⊢
 obtain ⟨Zo,Ze⟩:=Z
 simp only [] at HO4 HN4 ho5 hn5 hzl ⊢
 have HO5:Hid (zD w5 ov (Zo.map (·.1))):=Hd (by
  have h:=Row.below HO4.out hb5
  unfold zD
  rw [List.length_map];exact h)
 have HN5:=Hd (zI.below HN4.out hb5)
 have HP5:Hid (zD w5 ov2 (Zo.map (·.1))):=Hd (by
  have h:=Row.of_owns ho5
  unfold zD
  rw [List.length_map];exact h)
 have HM5:=Hd (zI.of_owns hn5)
 clear hb5 ho5 hn5 hZ C2 C2x HO4 HN4
 go_wp2_with fail
 refine (CF.out w5 HB5.out).mono ?_
 rintro e w6 ⟨rfl,hb6⟩
 have HB6:=Hd (zB HB5.out hb6)
 have CS:=Hd (zIp ov ov2 _ _ (by rw [List.length_map];omega) (by rw [List.length_map];omega) w6 (HO5.out.below hb6) (HP5.out.below hb6))
 have HN6:=Hd (zI.below HN5.out hb6)
 have HM6:=Hd (zI.below HM5.out hb6)
 clear hb6
 go_wp2_with fail
 refine CS.out.mono ?_
 rintro e w7 ⟨x,rfl,hx,hb7⟩
 obtain rfl:x=true:=hx.2 rfl
 have HB7:=Hd (zB HB6.out hb7)
 have CI:=Hd (zNh nv nv2 _ _ (by rw [List.length_map];omega) (by rw [List.length_map];omega) w7 (zI.below HN6.out hb7) (zI.below HM6.out hb7))
 rw [decide_eq_true rfl] at CI
 clear hx hb7 CS
 go_wp2_with fail
 refine CI.out.mono ?_
 rintro e wZ ⟨rfl,hbZ⟩
 have HX:=Hd (HQ.out wZ (zB HB7.out hbZ))
 clear hbZ CI
 go_wp2_with fail
 exact HX.out
end Go.Proofs.YtfalelkfhandfaaGreatDoor
