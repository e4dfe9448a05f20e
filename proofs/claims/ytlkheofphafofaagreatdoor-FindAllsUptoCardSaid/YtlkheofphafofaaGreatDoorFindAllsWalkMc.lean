/- The statement FindAlls, walked: the call returns true. -/
import Derived.Test.YtlkheofphafofaaGreatDoorCntPMc
import Derived.Test.YtlkheofphafofaaGreatDoorAllFMc
import Derived.Test.YtlkheofphafofaaGreatDoorQuoted2Mc
namespace Go.Proofs.YtlkheofphafofaaGreatDoor
set_option linter.all false
attribute [local irreducible] Calls
open Go.RowKit

theorem cntPost.flat {rules:List RuleM} {l:List Prt} {w0 w':World} {e:Ending} (h:cntPost rules l w0 e w'):∃ a c ns,e=.returned (.tuple #[.slice a (List.length ns) c,.int .i64 (findErr rules l)])∧ns=(if findErr rules l=0 then cntL rules.length (allM rules l) else [])∧RowInts w' (.slice a (List.length ns) c) .i64 (natI ns)∧Below w0.heap.size w0 w':=by
 unfold cntPost at h
 obtain ⟨hb,v,rfl,ns,hns,ho⟩:=h
 have hr:=nat_row ho
 obtain ⟨a,c,rfl,_⟩:=Row.shape (Row.of_owns ho)
 exact ⟨a,c,ns,rfl,hns,hr,hb⟩
set_option maxRecDepth 100000 in
set_option maxHeartbeats 8000000 in
theorem FindAlls_walk (w:World) (vr:Value) (rs:List RuleX) (hr:RulesIn w vr rs) (hs:∀ x∈rs,SmallR x.1) (hn:rs.length≤1048576) (vl:Value) (l:List Prt) (hlr:PartRow w vl l) (hl:SmallL l) (hH:HeldM w) :
  Calls Tryz.prog 8 #[vr,vl] w (AnswersM w):=by
 have HQ:RowKit.Hid (∀ w',Below w.heap.size w w'→AnswersM w (.returned (.bool true)) w'):=Hd fun w' h=>AnswersM.mk h
 generalize AnswersM w=Q at *
 have CF:=Hd (fun w' (hb:Below w.heap.size w w')=>law18_fixed w' (hH.T.below hb) (hH.M.below hb))
 have CG:=Hd (law18_great rs hs hn vr l hl.1 vl 2000 w hr hlr)
 have CA:=Hd (fun w' (hb:Below w.heap.size w w')=>all_flat rs hs l hl vr vl w' (hH.T.below hb) (hH.M.below hb) (hr.below hb) (hlr.below hb))
 have CB:=Hd (fun w' (hb:Below w.heap.size w w')=>ref_All18 rs hs hn l hl vr vl w' (hr.below hb) (hlr.below hb))
 have CX:=Hd (fun w' (hb:Below w.heap.size w w')=>find_Count rs hs l hl vr vl w' (hH.T.below hb) (hH.M.below hb) (hr.below hb) (hlr.below hb))
 have CY:=Hd (fun w' (hb:Below w.heap.size w w')=>ref_Count18 rs hs hn l hl vr vl w' (hr.below hb) (hlr.below hb))
 have HSM:=Hd (fun m hm=>allM_small (rules:=rs.map (·.1)) (l:=l) (fun r hr'=>by obtain ⟨x,hx,rfl⟩:=List.mem_map.1 hr';exact (hs x hx).h.1) hl.1 m hm)
 have HAL:RowKit.Hid (findErr (rs.map (·.1)) l=0→(allM (rs.map (·.1)) l).length≤100000000∧rs.length≤32):=Hd fun hz=>by
  have h1:=accM_len (rs.map (·.1)) l l.length 0
  have h2:=(findErr_zero.1 hz).2.1
  rw [accM_all,List.length_map] at h1
  rw [List.length_map] at h2
  have h3:l.length*rs.length≤1048576*32:=Nat.mul_le_mul hl.1 h2
  omega
 obtain ⟨ar,cr,rfl,hcr⟩:=hr.shape
 obtain ⟨al,cl,rfl,hcl⟩:=hlr.slice
 clear hr hlr hs hl hH
 unfold FlatF at CA CB
 go_enter Tryz.func8,Tryz.ntmps8
 go_wp2_with fail
 refine CG.out.mono ?_
 intro e w1 h1
 obtain ⟨y,rfl,hb1⟩:=h1.out
 have HB1:=Hd hb1
 clear h1 hb1 CG
 cases y with
 | true =>
  go_wp2_with fail
  refine (CF.out w1 HB1.out).mono ?_
  rintro e wZ ⟨rfl,hbZ⟩
  have HX:=Hd (HQ.out wZ (bthen HB1.out hbZ))
  clear hbZ
  go_wp2_with fail
  exact HX.out
 | false =>
 go_wp2_with fail
 refine (CA.out w1 HB1.out).mono ?_
 rintro e w2 ⟨va,vc,xs,rfl,hvc,hxs,hms,hb2,_,_⟩
 have HB2:=Hd (bthen HB1.out hb2)
 have HX2:=Hd hms
 have HXS:=Hd hxs
 clear hb2 hms hxs CA HB1
 go_wp2_with fail
 refine (CB.out w2 HB2.out).mono ?_
 rintro e w3 ⟨vb,vbc,ys,rfl,hvbc,hys,hms,hb3,_,_⟩
 have HB3:=Hd (bthen HB2.out hb3)
 have HX3:=Hd (HX2.out.below hb3)
 have HY3:=Hd hms
 have HYS:=Hd hys
 clear hb3 hms hys CB HB2 HX2
 go_wp2_with fail
 refine (CX.out w3 HB3.out).mono ?_
 intro e w4 h4
 obtain ⟨xa,xc,ns,rfl,hns,hri,hb4⟩:=h4.flat
 have HB4:=Hd (bthen HB3.out hb4)
 have HX4:=Hd (HX3.out.below hb4)
 have HY4:=Hd (HY3.out.below hb4)
 have HN4:=Hd hri
 have HNS:=Hd hns
 clear h4 hb4 hri hns CX HB3 HX3 HY3
 go_wp2_with fail
 refine (CY.out w4 HB4.out).mono ?_
 intro e w5 h5
 obtain ⟨ya,yc,ms,rfl,hms,hri,hb5⟩:=h5.flat
 obtain rfl:ms=ns:=hms.trans HNS.out.symm
 have HB5:=Hd (bthen HB4.out hb5)
 have HX5:=Hd (HX4.out.below hb5)
 have HY5:=Hd (HY4.out.below hb5)
 have HN5:=Hd (HN4.out.below hb5)
 have HM5:=Hd hri
 have hml:ms.length≤1000000:=by
  by_cases hz:findErr (rs.map (·.1)) l=0
  ·rw [if_pos hz] at hms
   have:=(HAL.out hz).2
   rw [hms,cntL_len,List.length_map];omega
  ·rw [if_neg hz] at hms;rw [hms];simp
 have hsmall:∀ (ts:List MchX),ts.map (·.1)=(if findErr (rs.map (·.1)) l=0 then allM (rs.map (·.1)) l else [])→ts.length≤100000000∧∀ x∈ts,x.1.2.2.length≤1048576:=fun ts hts=>by
  refine ⟨?_,fun x hx=>?_⟩
  ·have h:=congrArg List.length hts
   rw [List.length_map] at h
   by_cases hz:findErr (rs.map (·.1)) l=0
   ·rw [if_pos hz] at h;have:=(HAL.out hz).1;omega
   ·rw [if_neg hz,List.length_nil] at h;omega
  ·have hm:x.1∈ts.map (·.1):=List.mem_map_of_mem hx
   rw [hts] at hm
   by_cases hz:findErr (rs.map (·.1)) l=0
   ·rw [if_pos hz] at hm;exact HSM.out _ hm
   ·rw [if_neg hz] at hm;cases hm
 have hsx:=hsmall xs HXS.out
 have hsy:=hsmall ys HYS.out
 have CSM:=Hd (fun W (hb:Below w5.heap.size w5 W)=>ref_Same18 xs ys hsx.1 hsy.1 hsx.2 hsy.2 _ _ W (HX5.out.below hb) (HY5.out.below hb))
 have HXY:=Hd (HXS.out.trans HYS.out.symm)
 have hnl:(natI ms).length≤1000000000:=by unfold natI;rw [List.length_map];omega
 have CI:=Hd (fun W (hb:Below w5.heap.size w5 W)=>ref_Ints _ _ (natI ms) (natI ms) hnl hnl W (HN5.out.below hb) (HM5.out.below hb))
 clear h5 hb5 hri hms HNS hml hnl hsmall hsx hsy CY HB4 HX4 HY4 HN4 HXS HYS HSM HAL
 generalize findErr (rs.map (·.1)) l=z at *
 go_wp2_with fail
 refine (CF.out w5 HB5.out).mono ?_
 rintro e w6 ⟨rfl,hb6⟩
 have HB6:=Hd hb6
 clear hb6
 go_wp2_with fail
 refine (CSM.out w6 HB6.out).mono ?_
 rintro e w7 ⟨x,rfl,ht,hb7⟩
 obtain rfl:=ht.2 HXY.out
 have HB7:=Hd (bthen HB6.out hb7)
 clear ht hb7 CSM
 go_wp2_with fail
 refine (CI.out w7 HB7.out).mono ?_
 rintro e w8 ⟨rfl,hb8⟩
 have HX:=Hd (HQ.out w8 (bthen HB5.out (bthen HB7.out hb8)))
 clear hb8 CI
 (try simp only [decide_true])
 go_wp2_with fail
 exact HX.out
end Go.Proofs.YtlkheofphafofaaGreatDoor
