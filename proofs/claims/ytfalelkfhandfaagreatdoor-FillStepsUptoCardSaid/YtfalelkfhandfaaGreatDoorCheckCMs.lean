/- Layer 11: the document's among and Spelt, walked. -/
import Derived.Test.YtfalelkfhandfaaGreatDoorPackMs
import Derived.Test.YtfalelkfhandfaaGreatDoorSwapPMs
import Derived.Test.YtfalelkfhandfaaGreatDoorCheckBMs
import Derived.Test.YtfalelkfhandfaaGreatDoorClassMs
import Derived.Test.YtfalelkfhandfaaGreatDoorRef05Ms
import Derived.Test.YtfalelkfhandfaaGreatDoorRef06Ms
import Derived.StillTailTactics
namespace Go.Proofs.YtfalelkfhandfaaGreatDoor
set_option maxRecDepth 100000
set_option maxHeartbeats 32000000
set_option linter.all false
open Go.RowKit

theorem zSo (s:ByteArray) (ws:List (List UInt8)) (hl:ws.length≤1000) (v:Value) (w:World) (hr:Row w v ws.length 1 (strV ws)) :
  Calls Tryz.prog 114 #[.string s,v] w fun e w'=>e=.returned (.bool (decide (s.toList∈ws)))∧w=w':=by
 have HQ:Hid (∀ x,decide (s.toList∈ws)=x→(fun (e:Ending) w'=>e=.returned (.bool (decide (s.toList∈ws)))∧w=w') (.returned (.bool x)) w):=Hd fun x h=>⟨by rw [h],rfl⟩
 generalize (fun (e:Ending) w'=>e=.returned (.bool (decide (s.toList∈ws)))∧w=w')=Q at *
 obtain ⟨_,a,cap,rfl,hc,_,hcell⟩:=hr
 have HC:=Hd hcell
 clear hcell
 go_enter Tryz.func114,Tryz.ntmps114
 go_wp2_with fail
 go_loop [5] (fun i=>∃ k:Nat,i=.int .i64 k∧k≤ws.length∧∀ j,j<k→∀ x,ws[j]?=some x→x≠s.toList) (fun i=>ws.length-(intOf i).toNat)
 case atStart=>exact ⟨0,rfl,Nat.zero_le _,fun j h=>by omega⟩
 case round =>
  obtain ⟨k,rfl,hk,hno⟩:=hrel
  have HN:=Hd hno
  clear hno
  by_cases hlt:k<ws.length
  ·obtain ⟨b,off,rfl,hbl,hcl⟩:=HC.out (by omega)
   have h0:w.cell? ⟨b,off+k,none⟩=some (.string ⟨(ws[k]).toArray⟩):=by rw [hcl _ (by omega)];simp [strV,hlt]
   have hkl:(k:Int)<ws.length:=by omega
   have hk0:(0:Int)≤k:=by omega
   have hkc:(k:Int)<cap:=by omega
   have hwk:IntKind.i64.wrap ((k:Int)+1)=(k:Int)+1:=wI (by omega)
   have hB:=zEw ws[k]
   have HX:=Hd (show ws[k]?=some ws[k] by simp [hlt])
   generalize (⟨(ws[k]).toArray⟩:ByteArray)=B at *
   generalize ws[k]=x at *
   by_cases he:x=s.toList
   ·have f1:(B.toList == s.toList)=true:=by rw [beq_iff_eq,hB,he]
    have HF:=Hd (show decide (s.toList∈ws)=true from decide_eq_true (by rw [← he];exact List.mem_of_getElem? HX.out))
    clear hB he hcl
    go_wp2_with fail
    exact HQ.out _ HF.out
   ·have f1:(B.toList == s.toList)=false:=by rw [beq_eq_false_iff_ne,hB];exact he
    have HR:Hid (∀ j,j<k+1→∀ x,ws[j]?=some x→x≠s.toList):=Hd fun j hj y hy=>by
     by_cases e:j=k
     ·subst e;rw [HX.out] at hy;cases hy;exact he
     ·exact HN.out j (by omega) y hy
    have HK1:Hid (k+1≤ws.length):=Hd hlt
    have HML:Hid (ws.length-(k+1)<ws.length-k):=Hd (by omega)
    clear hB he hcl HX
    go_wp2_with fail
    go_round
    case rel=>exact ⟨k+1,by go_num,HK1.out,HR.out⟩
    case measure=>have:=HML.out;simp [intOf];omega
  ·have hkl:¬ (k:Int)<ws.length:=by omega
   have HF:=Hd (show decide (s.toList∈ws)=false from decide_eq_false fun hm=>by
    obtain ⟨i,hi,he⟩:=List.getElem_of_mem hm
    exact HN.out i (by omega) ws[i] (by simp [hi]) he)
   go_wp2_with fail
   exact HQ.out _ HF.out
theorem zSp (k:Nat) (hk:k<69) (s:ByteArray) (w:World) (hs:s.size≤2147483647) :
  Calls Tryz.prog 93 #[.int .u8 (k:Int),.string s] w fun e w'=>e=.returned (.bool (sptB k s))∧Below w.heap.size w w':=by
 have HQ:Hid (∀ x w',sptB k s=x→Below w.heap.size w w'→(fun (e:Ending) w'=>e=.returned (.bool (sptB k s))∧Below w.heap.size w w') (.returned (.bool x)) w'):=Hd fun x w' h hb=>⟨by rw [h],hb⟩
 generalize (fun (e:Ending) w'=>e=.returned (.bool (sptB k s))∧Below w.heap.size w w')=Q at *
 by_cases k26:k=26
 ·have C1:=Hd (zHx s w (by omega))
  have HV:=Hd (show sptB k s=name s by unfold sptB;rw [if_pos k26])
  have f26:((k:Int) == 26)=true:=by rw [beq_iff_eq];omega
  clear k26
  go_enter Tryz.func93,Tryz.ntmps93
  go_wp2_with fail
  refine C1.out.mono ?_
  rintro e w1 ⟨rfl,hb⟩
  generalize name s=x at *
  go_wp2_with fail
  exact HQ.out _ _ HV.out hb
 have f26:((k:Int) == 26)=false:=by rw [beq_eq_false_iff_ne];omega
 by_cases k27:k=27
 ·have C1:=Hd (zOp s hs w)
  have C2:=Hd (fun w=>zXf s hs w)
  have HV:=Hd (show sptB k s=(decide ((value s).2=0) || decide (kindL (zA s)≠0)) by unfold sptB;rw [if_neg k26,if_pos k27])
  have f27:((k:Int) == 27)=true:=by rw [beq_iff_eq];omega
  clear k26 k27
  go_enter Tryz.func93,Tryz.ntmps93
  go_wp2_with fail
  refine C1.out.mono ?_
  intro e w1 h1
  unfold valuePost at h1
  obtain ⟨rfl,hb⟩:=h1
  have HB:=Hd hb
  clear hb
  generalize value s=v at *
  obtain ⟨v1,v2⟩:=v
  generalize kindL (zA s)=q at *
  simp only [] at HV
  by_cases hv:v2=0
  ·have hvb:(v2 == 0)=true:=by rw [beq_iff_eq];exact hv
   have HX:=Hd (show sptB k s=true by rw [HV.out,decide_eq_true hv,Bool.true_or])
   clear hv HV
   go_wp2_with fail
   exact HQ.out _ _ HX.out HB.out
  ·have hvb:(v2 == 0)=false:=by rw [beq_eq_false_iff_ne];exact hv
   have HX:=Hd (show sptB k s=decide (q≠0) by rw [HV.out,decide_eq_false hv,Bool.false_or])
   clear hv HV
   go_wp2_with fail
   refine (C2.out _).mono ?_
   rintro e w2 ⟨rfl,rfl⟩
   go_wp2_with fail
   exact HQ.out _ _ (by rw [HX.out,Bool.eq_iff_iff];simp;try omega) HB.out
 have f27:((k:Int) == 27)=false:=by rw [beq_eq_false_iff_ne];omega
 have C1:=Hd (zSb k (by omega) w)
 have HV:=Hd (zBu s k26 k27)
 clear k26 k27
 go_enter Tryz.func93,Tryz.ntmps93
 go_wp2_with fail
 refine C1.out.mono ?_
 intro e w1 h1
 unfold rowPost at h1
 rw [if_pos hk] at h1
 obtain ⟨hb,vs,rfl,hrow⟩:=h1
 have HB:=Hd hb
 clear hb C1
 have hrow2:=hrow.below ((Below.refl _ _).alloc (Nat.le_refl _) (.cells #[.int .i64 ((arL k).1:Int),.bool (arL k).2,.bool (noneT k),vs] 140))
 obtain ⟨_,va,vc,rfl,_⟩:=hrow
 have hwl:(wordsT k).length≤1000:=by
  by_cases h:k<67
  ·have:∀ k,k<67→(wordsT k).length≤1000:=by decide
   exact this k h
  ·have e:wordsT k=[]:=by unfold wordsT;repeat rw [if_neg (by omega)]
   rw [e];simp
 have C2:=Hd (zSo s (wordsT k) hwl _ _ hrow2)
 have HB2:=Hd (HB.out.alloc HB.out.size (.cells #[.int .i64 ((arL k).1:Int),.bool (arL k).2,.bool (noneT k),.slice va (wordsT k).length vc] 140))
 clear hrow2 hwl
 generalize decide (s.toList∈wordsT k)=am at *
 generalize (wordsT k).length=n at *
 generalize noneT k=nn at *
 generalize arL k=ar at *
 obtain ⟨x,y⟩:=ar
 by_cases he:s.toList=[]
 ·have he2:s.toList.isEmpty=true:=by rw [he];rfl
  cases nn with
  | true =>
   have HX:=Hd (show sptB k s=true by rw [HV.out,he2];rfl)
   clear HV
   go_wp2_with fail
   exact HQ.out _ _ HX.out HB2.out
  | false =>
   have HX:=Hd (show sptB k s=am by rw [HV.out,he2];rfl)
   clear HV
   go_wp2_with fail
   refine C2.out.mono ?_
   rintro e w2 ⟨rfl,rfl⟩
   go_wp2_with fail
   exact HQ.out _ _ HX.out HB2.out
 ·have he2:s.toList.isEmpty=false:=by cases h:s.toList with
   | nil=>exact absurd h he
   | cons a l=>rfl
  have HX:=Hd (show sptB k s=am by rw [HV.out,he2];rfl)
  clear HV
  go_wp2_with fail
  refine C2.out.mono ?_
  rintro e w2 ⟨rfl,rfl⟩
  go_wp2_with fail
  exact HQ.out _ _ HX.out HB2.out
end Go.Proofs.YtfalelkfhandfaaGreatDoor
namespace Go.Proofs.YtfalelkfhandfaaGreatDoor
set_option maxRecDepth 100000
set_option maxHeartbeats 32000000
set_option linter.all false
attribute [local irreducible] wpStill
open Go.RowKit

theorem zEx (l:List Prt) (hl:l.length≤1000000000) (hf:FineP l) (v:Value) (w:World) (hr:zD w v l) :
  Calls Tryz.prog 66 #[v] w fun e w'=>e=.returned (.int .i64 (if checkB l then 0 else 8))∧Below w.heap.size w w':=by
 have HQ:Hid (∀ x w',(if checkB l then (0:Int) else 8)=x→Below w.heap.size w w'→(fun (e:Ending) w'=>e=.returned (.int .i64 (if checkB l then 0 else 8))∧Below w.heap.size w w') (.returned (.int .i64 x)) w'):=Hd fun x w' h hb=>⟨by rw [h],hb⟩
 generalize (fun (e:Ending) w'=>e=.returned (.int .i64 (if checkB l then 0 else 8))∧Below w.heap.size w w')=Q at *
 have HR:=Hd hr
 have HF:=Hd hf
 have C1:=Hd (zCt l hl v w hr)
 obtain ⟨va,vcap,rfl,hvc⟩:=hr.slice
 clear hr hf
 go_enter Tryz.func66,Tryz.ntmps66
 go_wp2_with fail
 refine C1.out.mono ?_
 rintro e w1 ⟨rfl,rfl⟩
 clear C1
 cases hw:zZ l with
 | false =>
  have HX:=Hd (show (if checkB l then (0:Int) else 8)=8 by unfold checkB;rw [hw];rfl)
  clear hw
  go_wp2_with fail
  exact HQ.out _ _ HX.out (Below.refl _ _)
 | true =>
  have HW:=Hd hw
  clear hw
  go_wp2_with fail
  go_loopw [3] (fun i wr=>chkRel l w i wr) (fun i _=>l.length-(intOf i).toNat)
  case atStart=>exact ⟨0,rfl,Nat.zero_le _,fun j _ h=>by omega,Below.refl _ _⟩
  case round =>
   obtain ⟨k,rfl,hk,hyes,hb⟩:=hrel
   have HB:=Hd hb
   have HY:=Hd hyes
   clear hb hyes
   by_cases hlt:k<l.length
   ·have hkl:(k:Int)<l.length:=by omega
    obtain ⟨b1,o1,rfl,_,_,_,hc1⟩:=HR.out.at HB.out (show 0<l.length by omega)
    obtain ⟨d0,d1,d2⟩:=hc1 k hlt
    have hk0:(0:Int)≤k:=by omega
    have hkc:(k:Int)<vcap:=by omega
    have hwk:IntKind.i64.wrap ((k:Int)+1)=(k:Int)+1:=wI (by omega)
    obtain ⟨hk256,hsz⟩:=HF.out.at hlt
    have HBAD:=Hd (fun (h:partB l[k]=false)=>show (if checkB l then (0:Int) else 8)=8 by rw [zJf hlt h];rfl)
    have HGOOD:=Hd (fun (h:partB l[k]=true)=>zMu hlt h HY.out)
    have HML:Hid (l.length-(k+1)<l.length-k):=Hd (by omega)
    have HK1:Hid (k+1≤l.length):=Hd hlt
    have hpd:partB l[k]=(decide ((l[k]).1≤68)&&(decide (((arL (l[k]).1).1:Int)≤(l[k]).2.1)&&((decide ((l[k]).2.1=(arL (l[k]).1).1) || (arL (l[k]).1).2)&&sptB (l[k]).1 (l[k]).2.2))):=rfl
    have HPD:=Hd hpd
    have HPR:Hid (∀ W',Below w.heap.size w W'→W'.cell? ⟨b1,o1+k*3,none⟩=some (.int .u8 ((l[k]).1:Int))∧W'.cell? ⟨b1,o1+k*3+1,none⟩=some (.int .i64 (l[k]).2.1)∧W'.cell? ⟨b1,o1+k*3+2,none⟩=some (.string (l[k]).2.2)):=Hd fun W' hb=>by
     obtain ⟨b2,o2,hbb,_,_,_,hc2⟩:=HR.out.at hb (show 0<l.length by omega)
     simp only [Option.some.injEq,Addr.mk.injEq,and_true] at hbb
     obtain ⟨rfl,rfl⟩:=hbb
     exact hc2 k hlt
    clear hc1 hpd
    generalize hpb:partB l[k]=pb at *
    have HPB:=Hd hpb
    clear hpb
    generalize l[k]=x at *
    obtain ⟨xk,xn,xw⟩:=x
    simp only [] at d0 d1 d2 hk256 hsz HPD HPR
    have CR:=Hd (zSb xk hk256 wr)
    go_wp2_with fail
    refine CR.out.mono ?_
    intro e w2 h2
    unfold rowPost at h2
    obtain ⟨hb2,h2⟩:=h2
    have HB2:=Hd (zB HB.out hb2)
    clear hb2
    by_cases h69:xk<69
    ·rw [if_pos h69] at h2
     obtain ⟨vs,rfl,hrow⟩:=h2
     obtain ⟨_,sa,sc,rfl,_⟩:=hrow
     have CS:=Hd (fun w=>zSp xk h69 xw w hsz)
     clear hsz HPB hk256
     generalize (wordsT xk).length=sn at *
     generalize noneT xk=nn at *
     generalize arL xk=ar at *
     generalize sptB xk xw=sp at *
     obtain ⟨am,ab⟩:=ar
     simp only [] at HPD
     have HBA:=Hd (HB2.out.alloc HB2.out.size (.cells #[.int .i64 (am:Int),.bool ab,.bool nn,.slice sa sn sc] 140))
     have q0:(w2.alloc (.cells #[.int .i64 (am:Int),.bool ab,.bool nn,.slice sa sn sc] 140)).cell? ⟨w2.heap.size,0,none⟩=some (.int .i64 (am:Int)):=by rw [World.cell?_alloc_at _ _ _ _ rfl];rfl
     have q1:(w2.alloc (.cells #[.int .i64 (am:Int),.bool ab,.bool nn,.slice sa sn sc] 140)).cell? ⟨w2.heap.size,1,none⟩=some (.bool ab):=by rw [World.cell?_alloc_at _ _ _ _ rfl];rfl
     obtain ⟨d3,d4,d5⟩:=HPR.out _ HBA.out
     have ham:¬ (am:Int)<0:=by omega
     clear d0 d1 d2 CR HPR
     by_cases c2:(am:Int)≤xn
     ·have c2i:¬ xn<(am:Int):=by omega
      by_cases hbad:ab=false∧xn≠(am:Int)
      ·obtain ⟨rfl,c3⟩:=hbad
       have c3b:(xn == (am:Int))=false:=by rw [beq_eq_false_iff_ne];exact c3
       have c3n:(xn != (am:Int))=true:=by rw [bne_iff_ne];exact c3
       have HP:=Hd (show pb=false by rw [HPD.out,decide_eq_false c3];simp)
       have HX:=Hd (HBAD.out HP.out)
       clear c3 c2 HPD
       go_upto_region 7 with (fail)
       generalize w2.alloc _=WW at *
       generalize w2.heap.size=gg at *
       go_still_tail 41,(by kernel_rfl)
       have HB3:=Hd HBA.out.drew
       go_wp2_with fail
       exact HQ.out _ _ HX.out HB3.out
      ·have HP:=Hd (show pb=sp by
        have e:(decide (xn=(am:Int)) || ab)=true:=by
         cases ab with
         | true=>simp
         | false =>
          have:xn=(am:Int):=Classical.byContradiction fun h=>hbad ⟨rfl,h⟩
          simp [this]
        rw [HPD.out,decide_eq_true (show xk≤68 by omega),decide_eq_true c2,e];simp)
       clear c2 HPD
       have hcs:(ab=true)∨(ab=false∧xn=(am:Int)):=by
        cases ab with
        | true=>exact Or.inl rfl
        | false=>exact Or.inr ⟨rfl,Classical.byContradiction fun h=>hbad ⟨rfl,h⟩⟩
       clear hbad
       rcases hcs with rfl | ⟨rfl,c3⟩
       ·go_upto_region 7 with (fail)
        generalize w2.alloc _=WW at *
        generalize w2.heap.size=gg at *
        go_still_tail 39,(by kernel_rfl)
        change wpList _ _ _ _ _ (World.drew _)
        have HBD:=Hd HBA.out.drew
        generalize WW.drew=WD at *
        go_wp2_with fail
        refine mB (CS.out _) HBD.out fun w3 HB3=>?_
        cases sp with
        | false =>
         have HX:=Hd (HBAD.out HP.out)
         go_wp2_with fail
         exact HQ.out _ _ HX.out HB3.out
        | true =>
         have HRL:Hid (chkRel l w (.int .i64 ((k+1:Nat):Int)) w3):=Hd ⟨k+1,rfl,HK1.out,HGOOD.out HP.out,HB3.out⟩
         go_wp2_with fail
         refine ⟨?_,(by have:=HML.out;simp [intOf];try omega)⟩
         first
          | exact HRL.out
          | (repeat apply Exists.intro
             refine ⟨?_,rfl⟩
             exact HRL.out)
       ·have c3b:(xn == (am:Int))=true:=by rw [beq_iff_eq];exact c3
        have c3n:(xn != (am:Int))=false:=by rw [bne_eq_false_iff_eq];exact c3
        clear c3
        go_upto_region 7 with (fail)
        generalize w2.alloc _=WW at *
        generalize w2.heap.size=gg at *
        go_still_tail 39,(by kernel_rfl)
        change wpList _ _ _ _ _ (World.drew _)
        have HBD:=Hd HBA.out.drew
        generalize WW.drew=WD at *
        go_wp2_with fail
        refine mB (CS.out _) HBD.out fun w3 HB3=>?_
        cases sp with
        | false =>
         have HX:=Hd (HBAD.out HP.out)
         go_wp2_with fail
         exact HQ.out _ _ HX.out HB3.out
        | true =>
         have HRL:Hid (chkRel l w (.int .i64 ((k+1:Nat):Int)) w3):=Hd ⟨k+1,rfl,HK1.out,HGOOD.out HP.out,HB3.out⟩
         go_wp2_with fail
         refine ⟨?_,(by have:=HML.out;simp [intOf];try omega)⟩
         first
          | exact HRL.out
          | (repeat apply Exists.intro
             refine ⟨?_,rfl⟩
             exact HRL.out)
     ·have c2i:xn<(am:Int):=by omega
      have HP:=Hd (show pb=false by rw [HPD.out,decide_eq_false c2];simp)
      have HX:=Hd (HBAD.out HP.out)
      clear c2 HPD
      go_upto_region 7 with (fail)
      generalize w2.alloc _=WW at *
      generalize w2.heap.size=gg at *
      go_still_tail 41,(by kernel_rfl)
      have HB3:=Hd HBA.out.drew
      go_wp2_with fail
      exact HQ.out _ _ HX.out HB3.out
    ·rw [if_neg h69] at h2
     subst h2
     have HP:=Hd (show pb=false by rw [HPD.out,decide_eq_false (by omega)];simp)
     have HX:=Hd (HBAD.out HP.out)
     have HBA:=Hd (HB2.out.alloc HB2.out.size (.cells #[.int .i64 (-1),.bool false,.bool false,.slice none 0 0] 140))
     have q0:(w2.alloc (.cells #[.int .i64 (-1),.bool false,.bool false,.slice none 0 0] 140)).cell? ⟨w2.heap.size,0,none⟩=some (.int .i64 (-1)):=by rw [World.cell?_alloc_at _ _ _ _ rfl];rfl
     clear d0 d1 d2 CR HPR HPD
     go_upto_region 7 with (fail)
     generalize w2.alloc _=WW at *
     generalize w2.heap.size=gg at *
     go_still_tail 41,(by kernel_rfl)
     have HB3:=Hd HBA.out.drew
     go_wp2_with fail
     exact HQ.out _ _ HX.out HB3.out
   ·have hkl:¬ (k:Int)<l.length:=by omega
    have HX:=Hd (show (if checkB l then (0:Int) else 8)=0 by rw [zGh HW.out fun j hj=>HY.out j hj (by omega)];rfl)
    go_wp2_with fail
    exact HQ.out _ _ HX.out HB.out
end Go.Proofs.YtfalelkfhandfaaGreatDoor
