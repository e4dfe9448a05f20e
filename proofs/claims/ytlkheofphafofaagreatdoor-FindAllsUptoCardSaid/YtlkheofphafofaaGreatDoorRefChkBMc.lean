/- Layer 16, the reference: Check, walked. -/
import Derived.Test.YtlkheofphafofaaGreatDoorRefChkAMc
import Derived.Test.YtlkheofphafofaaGreatDoorAtSMc
import Derived.Test.YtlkheofphafofaaGreatDoorCheckCMc
import Derived.Test.YtlkheofphafofaaGreatDoorRuleBMc
import Derived.Test.YtlkheofphafofaaGreatDoorRuleVMc
import Derived.Test.YtlkheofphafofaaGreatDoorAppEqMc
import Derived.Test.YtlkheofphafofaaGreatDoorSeekPMc
namespace Go.Proofs.YtlkheofphafofaaGreatDoor
set_option linter.all false
attribute [local irreducible] Calls
attribute [local irreducible] wpStill
open Go.RowKit

def rcIn (r:RuleM) (k:Nat) (w0:World) (iv:Value) (wr:World):Prop:=∃ j:Nat,iv=.int .i64 (j:Int)∧j≤k∧(∀ i (hi:i<r.holes.length),i<j→(r.holes[i]).1≠((r.holes[k]?).getD (⟨#[]⟩,0)).1)∧Below w0.heap.size w0 wr
def rcOut (r:RuleM) (w0:World) (iv:Value) (wr:World):Prop:=∃ k:Nat,iv=.int .i64 (k:Int)∧k≤r.holes.length∧(∀ i,i<k→holeB r i=true)∧Below w0.heap.size w0 wr
theorem dup_no {r:RuleM} {k:Nat} {s:ByteArray} (h:∀ i (hi:i<r.holes.length),i<k→(r.holes[i]).1≠s):dupB r k s=false:=by
 unfold dupB
 rw [List.any_eq_false]
 intro x hx
 obtain ⟨i,hi,rfl⟩:=List.mem_iff_getElem.1 hx
 rw [List.length_take] at hi
 rw [List.getElem_take]
 have:=h i (by omega) (by omega)
 simpa using this
theorem dup_yes {r:RuleM} {k i:Nat} {s:ByteArray} (hi:i<r.holes.length) (hik:i<k) (e:(r.holes[i]).1=s):dupB r k s=true:=by
 unfold dupB
 rw [List.any_eq_true]
 refine ⟨r.holes[i],?_,by simpa using e⟩
 rw [List.mem_iff_getElem]
 exact ⟨i,by rw [List.length_take];omega,by rw [List.getElem_take]⟩
set_option maxRecDepth 100000 in
set_option maxHeartbeats 16000000 in
theorem ref_Check16 (r:RuleM) (hs:SmallR r) (vh vf vb:Value) (w:World) (hr:RuleIn w r vh vf vb) :
  Calls Tryz.prog 19 #[ruleAgg r vh vf vb] w fun e w'=>e=.returned (.int .i64 (ruleZ r))∧Below w.heap.size w w':=by
 have HQ:RowKit.Hid (∀ x w',ruleZ r=x→Below w.heap.size w w'→(fun (e:Ending) w'=>e=.returned (.int .i64 (ruleZ r))∧Below w.heap.size w w') (.returned (.int .i64 x)) w'):=Hd fun x w' h hb=>⟨by rw [h],hb⟩
 generalize (fun (e:Ending) w'=>e=.returned (.int .i64 (ruleZ r))∧Below w.heap.size w w')=Q at *
 have HS:=Hd hs
 obtain ⟨ah,ch,rfl,hch⟩:=Row.shape hr.H
 obtain ⟨af,cf,rfl,hcf⟩:=hr.F.slice
 obtain ⟨ab,cb,rfl,hcb⟩:=hr.B.slice
 have HR:=Hd hr
 have HTOP:RowKit.Hid (ruleTop r=(name r.nm&&(decide (1≤r.goal∧r.goal≤3)&&(checkB r.fnd&&(checkB r.by'&&!(decide (r.goal=3)&&decide (kindAt r.by' 0≠13))))))):=Hd rfl
 have HR1:RowKit.Hid (RK (w.alloc (.cells #[.string r.nm,.int .u8 (r.goal:Int),.slice ah r.holes.length ch,.slice af r.fnd.length cf,.slice ab r.by'.length cb] 25)) w.heap.size r.nm r.goal (.slice ah r.holes.length ch) (.slice af r.fnd.length cf) (.slice ab r.by'.length cb)):=Hd (heap_alloc_new _ _)
 have HB1:RowKit.Hid (Below w.heap.size w (w.alloc (.cells #[.string r.nm,.int .u8 (r.goal:Int),.slice ah r.holes.length ch,.slice af r.fnd.length cf,.slice ab r.by'.length cb] 25))):=Hd ((Below.refl _ _).alloc (Nat.le_refl _) _)
 have hhl:=hs.h.1
 have hgl:=hs.g
 have hnl:=hs.n
 clear hr hs
 unfold ruleAgg
 obtain ⟨e0,e1,e2,e3,e4⟩:=HR1.out.cells
 go_enter Tryz.func19,Tryz.ntmps19
 go_wp2_with fail
 generalize w.alloc (.cells #[.string r.nm,.int .u8 (r.goal:Int),.slice ah r.holes.length ch,.slice af r.fnd.length cf,.slice ab r.by'.length cb] 25)=W1 at *
 have C1:=Hd (ref_Name r.nm W1 (by omega))
 go_wp2_with fail
 refine C1.out.mono ?_
 rintro e w2 ⟨rfl,hb2⟩
 have HR2:=Hd (HR1.out.below hb2)
 have HB2:=Hd (bthen HB1.out hb2)
 clear hb2 C1 HB1 HR1 e0 e1 e2 e3 e4
 obtain ⟨e0,e1,e2,e3,e4⟩:=HR2.out.cells
 cases hnm:name r.nm with
 | false =>
  have HX:=Hd (HQ.out 10 w2 (ruleZ_10 (by rw [HTOP.out,hnm];rfl)) HB2.out)
  clear hnm
  go_wp2_with fail
  exact HX.out
 | true =>
 have HTOP2:=HTOP.out
 rw [hnm,Bool.true_and] at HTOP2
 have HTOP:=Hd HTOP2
 clear HTOP2 hnm
 by_cases hg1:r.goal<1
 ·have g1:(r.goal:Int)<1:=by omega
  have HX:=Hd (HQ.out 10 w2 (ruleZ_10 (by rw [HTOP.out,decide_eq_false (by omega)];rfl)) HB2.out)
  go_wp2_with fail
  exact HX.out
 by_cases hg3:3<r.goal
 ·have g1:¬ (r.goal:Int)<1:=by omega
  have g2:(3:Int)<(r.goal:Int):=by omega
  have HX:=Hd (HQ.out 10 w2 (ruleZ_10 (by rw [HTOP.out,decide_eq_false (by omega)];rfl)) HB2.out)
  go_wp2_with fail
  exact HX.out
 have g1:¬ (r.goal:Int)<1:=by omega
 have g2:¬ (3:Int)<(r.goal:Int):=by omega
 have HTOP2:=HTOP.out
 rw [decide_eq_true (show 1≤r.goal∧r.goal≤3 by omega),Bool.true_and] at HTOP2
 have HTOP:=Hd HTOP2
 have C2:=Hd (ref_Check11 r.fnd (by have:=HS.out.f.1;omega) HS.out.f.fine _ w2 (HR.out.F.below HB2.out))
 clear HTOP2 hg1 hg3
 go_wp2_with fail
 refine C2.out.mono ?_
 rintro e w3 ⟨rfl,hb3⟩
 have HR3:=Hd (HR2.out.below hb3)
 have HB3:=Hd (bthen HB2.out hb3)
 clear hb3 C2 HB2 HR2 e0 e1 e2 e3 e4
 obtain ⟨e0,e1,e2,e3,e4⟩:=HR3.out.cells
 cases hcf2:checkB r.fnd with
 | false =>
  have HX:=Hd (HQ.out 10 w3 (ruleZ_10 (by rw [HTOP.out,hcf2];rfl)) HB3.out)
  clear hcf2
  simp only [Bool.false_eq_true,if_false]
  go_wp2_with fail
  exact HX.out
 | true =>
 have HCF:=Hd hcf2
 have HTOP2:=HTOP.out
 rw [hcf2,Bool.true_and] at HTOP2
 have HTOP:=Hd HTOP2
 have C3:=Hd (ref_Check11 r.by' (by have:=HS.out.b.1;omega) HS.out.b.fine _ w3 (HR.out.B.below HB3.out))
 clear HTOP2 hcf2
 simp only [if_true]
 go_wp2_with fail
 refine C3.out.mono ?_
 rintro e w4 ⟨rfl,hb4⟩
 have HR4:=Hd (HR3.out.below hb4)
 have HB4:=Hd (bthen HB3.out hb4)
 clear hb4 C3 HB3 HR3 e0 e1 e2 e3 e4
 obtain ⟨e0,e1,e2,e3,e4⟩:=HR4.out.cells
 cases hcb2:checkB r.by' with
 | false =>
  have HX:=Hd (HQ.out 10 w4 (ruleZ_10 (by rw [HTOP.out,hcb2];rfl)) HB4.out)
  clear hcb2
  simp only [Bool.false_eq_true,if_false]
  go_wp2_with fail
  exact HX.out
 | true =>
 have HCB:=Hd hcb2
 have HTOP2:=HTOP.out
 rw [hcb2,Bool.true_and] at HTOP2
 have HTOP:=Hd HTOP2
 have hb0:=(well_zero (checkB_inv hcb2).1).1
 clear HTOP2 hcb2
 simp only [if_true]
 have hbr:=HR.out.B
 obtain ⟨bb,bo,rfl,_,_,hblt,hbc⟩:=hbr.at HB4.out hb0
 obtain ⟨f0,_,_⟩:=hbc 0 hb0
 rw [Nat.zero_mul,Nat.add_zero] at f0
 have hb0i:(0:Int)<(r.by'.length:Int):=by omega
 have HK0:RowKit.Hid (kindAt r.by' 0=(r.by'[0]).1):=Hd (by unfold kindAt;rw [List.getElem?_eq_getElem hb0])
 clear hbc hbr
 generalize (r.by'[0]).1=k0 at *
 by_cases hg13:r.goal=3∧k0≠13
 ·have g3:((r.goal:Int) == 3)=true:=by rw [beq_iff_eq];omega
  have g4:((k0:Int) != 13)=true:=by rw [bne_iff_ne];omega
  have HX:=Hd (HQ.out 10 w4 (ruleZ_10 (by rw [HTOP.out,HK0.out,decide_eq_true hg13.1,decide_eq_true hg13.2];rfl)) HB4.out)
  clear hg13
  go_wp2_with fail
  exact HX.out
 have HT1:RowKit.Hid (ruleTop r=true):=Hd (by
  rw [HTOP.out,HK0.out]
  by_cases h3:r.goal=3
  ·have h13:k0=13:=Decidable.not_not.1 fun h=>hg13 ⟨h3,h⟩
   rw [h13];simp
  ·rw [decide_eq_false h3];rfl)
 have HG13:RowKit.Hid (((r.goal:Int) == 3)=false∨(((r.goal:Int) == 3)=true∧((k0:Int) != 13)=false)):=Hd (by
  by_cases h3:r.goal=3
  ·have h13:k0=13:=Decidable.not_not.1 fun h=>hg13 ⟨h3,h⟩
   right;exact ⟨by rw [beq_iff_eq];omega,by rw [bne_eq_false_iff_eq];omega⟩
  ·left;rw [beq_eq_false_iff_ne];omega)
 clear hg13 HTOP HK0
 rcases HG13.out with hg3 | ⟨hg3,hg4⟩
 all_goals
  go_upto_region 3 with (fail)
  clear f0
  go_wp2_with fail
  clear e0 e1 e2 e3 e4
  go_loopw [3,4] (fun cv iv wr=>rcOne r.holes w4 cv iv wr) (fun _ iv _=>r.holes.length-(intOf iv).toNat)
  case atStart=>exact ⟨0,0,rfl,rfl,Nat.zero_le _,rfl,Below.refl _ _⟩
  case round =>
   obtain ⟨k,n,rfl,rfl,hk,hn,hb⟩:=hrel
   have HB:=Hd hb
   have HN:=Hd hn
   have hnk:n≤k:=by
    have:=sevN_le (r.holes.take k)
    rw [List.length_take] at this
    omega
   clear hb hn
   have hwk:IntKind.i64.wrap ((k:Int)+1)=(k:Int)+1:=by rw [IntKind.wrap_i64];omega
   have hwn:IntKind.i64.wrap ((n:Int)+1)=(n:Int)+1:=by rw [IntKind.wrap_i64];omega
   have HR5:=Hd (HR4.out.below HB.out)
   obtain ⟨e0,e1,e2,e3,e4⟩:=HR5.out.cells
   by_cases hlt:k<r.holes.length
   ·have hkl:(k:Int)<r.holes.length:=by omega
    have hk0:(0:Int)≤(k:Int):=by omega
    have hkc:(k:Int)<(ch:Int):=by omega
    obtain ⟨b1,o1,rfl,_,_,_,hc1⟩:=HR.out.H.at (bthen HB4.out HB.out) (show 0<r.holes.length by omega)
    obtain ⟨d0,d1⟩:=hc1 k hlt
    have HSV:=Hd (sevN_take hlt)
    have HMS:RowKit.Hid (r.holes.length-(k+1)<r.holes.length-k):=Hd (by omega)
    have CSV:=Hd (ref_Several (r.holes[k]).1 (r.holes[k]).2 wr)
    have HNT:RowKit.Hid (isSev (r.holes[k]).2=true→n+1=sevN (r.holes.take (k+1))):=Hd fun h=>by rw [HSV.out,if_pos h,HN.out]
    have HNF:RowKit.Hid (isSev (r.holes[k]).2=false→n=sevN (r.holes.take (k+1))):=Hd fun h=>by rw [HSV.out,if_neg (by rw [h];simp),HN.out];rfl
    clear hc1 HSV
    generalize (r.holes[k]).1=hn1 at *
    generalize (r.holes[k]).2=hk1 at *
    go_wp2_with fail
    refine CSV.out.mono ?_
    rintro e w5 ⟨rfl,hb5⟩
    have HB5:=Hd (bthen HB.out hb5)
    clear hb5 CSV d0 d1 e0 e1 e2 e3 e4
    cases hsv:isSev hk1 with
    | true =>
     have HX:=Hd (HNT.out hsv)
     clear hsv
     go_wp2_with fail
     exact ⟨⟨k+1,n+1,by push_cast;rfl,by push_cast;rfl,by omega,HX.out,HB5.out⟩,HMS.out⟩
    | false =>
     have HX:=Hd (HNF.out hsv)
     clear hsv
     go_wp2_with fail
     exact ⟨⟨k+1,n,by push_cast;rfl,rfl,by omega,HX.out,HB5.out⟩,HMS.out⟩
   ·obtain rfl:k=r.holes.length:=by omega
    have hkl:¬ (r.holes.length:Int)<r.holes.length:=by omega
    have hn2:n=sevN r.holes:=by have:=HN.out;rw [sevN_all] at this;exact this
    by_cases hl16:16<r.holes.length
    ·have g5:(16:Int)<(r.holes.length:Int):=by omega
     have HX:=Hd (HQ.out 14 wr (ruleZ_14 HT1.out (Or.inl hl16)) (bthen HB4.out HB.out))
     go_wp2_with fail
     exact HX.out
    have g5:¬ (16:Int)<(r.holes.length:Int):=by omega
    have HL16:RowKit.Hid (r.holes.length≤16):=Hd (by omega)
    by_cases hs2:2<n
    ·have g6:(2:Int)<(n:Int):=by omega
     have HX:=Hd (HQ.out 14 wr (ruleZ_14 HT1.out (Or.inr (by omega))) (bthen HB4.out HB.out))
     clear hn2 hs2
     go_wp2_with fail
     exact HX.out
    have g6:¬ (2:Int)<(n:Int):=by omega
    have HS2:RowKit.Hid (sevN r.holes≤2):=Hd (by omega)
    have HB5:=Hd (bthen HB4.out HB.out)
    clear hs2 hn2 HN hl16
    go_wp2_with fail
    clear e0 e1 e2 e3 e4
    obtain ⟨w9,rfl⟩:∃ w9,w9=wr:=⟨_,rfl⟩
    go_loopw [5] (fun iv wr=>rcOut r w9 iv wr) (fun iv _=>r.holes.length-(intOf iv).toNat)
    case atStart=>exact ⟨0,rfl,Nat.zero_le _,fun i hi=>by omega,Below.refl _ _⟩
    case round =>
     obtain ⟨k,rfl,hk,hok,hb⟩:=hrel
     have HB7:RowKit.Hid (Below w.heap.size w wr):=Hd (bthen HB5.out hb)
     have HR7:=Hd (HR5.out.below hb)
     have HB:=Hd hb
     have HOK:=Hd hok
     clear hb hok
     have hwk:IntKind.i64.wrap ((k:Int)+1)=(k:Int)+1:=by rw [IntKind.wrap_i64];have:=HL16.out;omega
     obtain ⟨e0,e1,e2,e3,e4⟩:=HR7.out.cells
     by_cases hlt:k<r.holes.length
     ·have hkl:(k:Int)<r.holes.length:=by omega
      have hk0:(0:Int)≤(k:Int):=by omega
      have hkc:(k:Int)<(ch:Int):=by omega
      obtain ⟨b1,o1,rfl,_,_,_,hc1⟩:=HR.out.H.at HB7.out (show 0<r.holes.length by omega)
      obtain ⟨d0,d1⟩:=hc1 k hlt
      have HHB:=Hd (holeB_eq hlt)
      have hsz:=(HS.out.h.2 _ (List.getElem_mem hlt)).1
      have HGD:RowKit.Hid (((r.holes[k]?).getD (⟨#[]⟩,0)).1=(r.holes[k]).1):=Hd (by rw [List.getElem?_eq_getElem hlt];rfl)
      have HHC:RowKit.Hid (∀ W,Below w.heap.size w W→∀ j (hj:j<r.holes.length),W.cell? ⟨b1,o1+j*2,none⟩=some (.string (r.holes[j]).1)):=Hd fun W hb j hj=>by
       obtain ⟨b',o',e',_,_,_,hcc⟩:=HR.out.H.at hb (show 0<r.holes.length by omega)
       simp only [Option.some.injEq,Addr.mk.injEq,and_true] at e'
       obtain ⟨rfl,rfl⟩:=e'
       exact (hcc j hj).1
      obtain ⟨h,hh⟩:∃ h,h=r.holes[k]:=⟨_,rfl⟩
      rw [← hh] at d0 d1 HHB hsz HGD
      obtain ⟨hn1,hk1⟩:=h
      simp only [] at d0 d1 HHB hsz HGD
      have HHH:=Hd hh
      have HMS:RowKit.Hid (r.holes.length-(k+1)<r.holes.length-k):=Hd (by omega)
      have HERR:RowKit.Hid (∀ w',holeB r k=false→Below w.heap.size w w'→Q (.returned (.int .i64 11)) w'):=Hd fun w' h hb=>HQ.out 11 w' (ruleZ_11 HT1.out HL16.out HS2.out hlt h) hb
      have HNEXT:RowKit.Hid (∀ w',holeB r k=true→Below w9.heap.size w9 w'→rcOut r w9 (.int .i64 ((k:Int)+1)) w'):=Hd fun w' h hb=>⟨k+1,by push_cast;rfl,by omega,fun i hi=>by
       by_cases e:i=k
       ·subst e;exact h
       ·exact HOK.out i (by omega),hb⟩
      have hA:Below wr.heap.size wr (wr.alloc (.cells #[.string hn1,.int .u8 (hk1:Int)] 43)):=(Below.refl _ _).alloc (Nat.le_refl _) _
      have HB2:=Hd (bthen HB.out hA)
      have HR8:=Hd (HR7.out.below hA)
      have HK2:RowKit.Hid ((wr.alloc (.cells #[.string hn1,.int .u8 (hk1:Int)] 43)).heap[wr.heap.size]?=some (.cells #[.string hn1,.int .u8 (hk1:Int)] 43 (0,0))):=Hd (heap_alloc_new _ _)
      clear hc1 hA hsz hh
      have hk16:k≤16:=by have:=HL16.out;omega
      go_upto_region 15 with (fail)
      clear d0 d1 e0 e1 e2 e3 e4
      generalize wr.alloc (.cells #[.string hn1,.int .u8 (hk1:Int)] 43)=W2 at *
      generalize wr.heap.size=gh at *
      go_wp2_with fail
      go_loopw [7] (fun iv wr=>rcIn r k W2 iv wr) (fun iv _=>k-(intOf iv).toNat)
      case atStart=>exact ⟨0,rfl,Nat.zero_le _,fun i _ hi=>by omega,Below.refl _ _⟩
      case round =>
       obtain ⟨j,rfl,hjk,hno,hb⟩:=hrel
       rw [HGD.out] at hno
       have HNO:=Hd hno
       have HB3:=Hd (bthen HB2.out hb)
       have HBI:=Hd hb
       have HR9:=Hd (HR8.out.below hb)
       have HK3:=Hd (keeps hb HK2.out)
       clear hb hno
       obtain ⟨e0,e1,e2,e3,e4⟩:=HR9.out.cells
       have g0:wr.cell? ⟨gh,0,none⟩=some (.string hn1):=by simp [World.cell?,HK3.out]
       have g1:wr.cell? ⟨gh,1,none⟩=some (.int .u8 (hk1:Int)):=by simp [World.cell?,HK3.out]
       have HB4b:=Hd (bthen HB5.out HB3.out)
       by_cases hjlt:j<k
       ·have hjl:j<r.holes.length:=by omega
        have d0:=HHC.out wr HB4b.out j hjl
        have hji:(j:Int)<(k:Int):=by omega
        have hj0:(0:Int)≤(j:Int):=by omega
        have hjh:(j:Int)<r.holes.length:=by omega
        have hjc:(j:Int)<(ch:Int):=by omega
        have hwj:IntKind.i64.wrap ((j:Int)+1)=(j:Int)+1:=by rw [IntKind.wrap_i64];omega
        by_cases he:(r.holes[j]).1=hn1
        ·have HX:=Hd (fun nq=>HERR.out (wr.drewN nq) (by rw [HHB.out,dup_yes hjl hjlt he];rfl) (drewB HB4b.out nq))
         rw [he] at d0
         clear he
         go_upto_region 18 with (fail)
         go_quiet (fail)
         go_wp2_with fail
         exact HX.out _
        ·have HX:RowKit.Hid (∀ W,Below W2.heap.size W2 W→rcIn r k W2 (.int .i64 ((j:Int)+1)) W):=Hd fun W hb=>⟨j+1,by push_cast;rfl,by omega,fun i hi hij=>by
          rw [HGD.out]
          by_cases e:i=j
          ·subst e;exact he
          ·exact HNO.out i hi (by omega),hb⟩
         have HY:=Hd (fun nq=>HX.out _ (drewB HBI.out nq))
         have g2:((r.holes[j]).1.toList == hn1.toList)=false:=by rw [beq_eq_false_iff_ne];exact pl_bytes_ne he
         clear he
         generalize (r.holes[j]).1=hj1 at *
         go_upto_region 18 with (fail)
         go_quiet (fail)
         go_wp2_with fail
         exact ⟨HY.out _,by simp only [intOf];omega⟩
       ·obtain rfl:j=k:=by omega
        have hji:¬ (j:Int)<(j:Int):=by omega
        have HDN:RowKit.Hid (dupB r j hn1=false):=Hd (dup_no HNO.out)
        have CN:=Hd (ref_Name hn1 wr (by have:=(HS.out.h.2 _ (List.getElem_mem hlt)).1;rw [← HHH.out] at this;simp only [] at this;omega))
        have hhb:=HHB.out
        rw [HDN.out,Bool.not_false,Bool.true_and] at hhb
        have HHB:=Hd hhb
        clear hhb
        go_wp2_with fail
        refine CN.out.mono ?_
        rintro e w5 ⟨rfl,hb5⟩
        have HB6:=Hd (bthen HB4b.out hb5)
        have HB6i:=Hd (bthen HB3.out hb5)
        have HK5:=Hd (keeps hb5 HK3.out)
        have HR10:=Hd (HR9.out.below hb5)
        clear hb5 CN g0 g1 e0 e1 e2 e3 e4
        have g0:w5.cell? ⟨gh,0,none⟩=some (.string hn1):=by simp [World.cell?,HK5.out]
        have g1:w5.cell? ⟨gh,1,none⟩=some (.int .u8 (hk1:Int)):=by simp [World.cell?,HK5.out]
        obtain ⟨e0,e1,e2,e3,e4⟩:=HR10.out.cells
        cases hnm:name hn1 with
        | false =>
         have HX:=Hd (HERR.out w5 (by rw [HHB.out,hnm];rfl) HB6.out)
         clear hnm
         go_wp2_with fail
         exact HX.out
        | true =>
        have hhb:=HHB.out
        rw [hnm,Bool.true_and] at hhb
        have HHB:=Hd hhb
        clear hnm hhb
        by_cases hk1l:hk1<1
        ·have q1:(hk1:Int)<1:=by omega
         have HX:=Hd (HERR.out w5 (by rw [HHB.out,decide_eq_false (by omega)];rfl) HB6.out)
         clear hk1l
         go_wp2_with fail
         exact HX.out
        by_cases hk7:7<hk1
        ·have q1:¬ (hk1:Int)<1:=by omega
         have q2:(7:Int)<(hk1:Int):=by omega
         have HX:=Hd (HERR.out w5 (by rw [HHB.out,decide_eq_false (by omega)];rfl) HB6.out)
         clear hk1l hk7
         go_wp2_with fail
         exact HX.out
        have q1:¬ (hk1:Int)<1:=by omega
        have q2:¬ (7:Int)<(hk1:Int):=by omega
        have hhb:=HHB.out
        rw [decide_eq_true (show 1≤hk1∧hk1≤7 by omega),Bool.true_and] at hhb
        have HHB:=Hd hhb
        clear hhb hk1l hk7
        have CP1:=Hd (ref_places r.fnd (by have:=HS.out.f.1;omega) _ (well_rows (checkB_inv HCF.out).1) _ (hn1,hk1) w5 (HR.out.F.below HB6.out))
        go_wp2_with fail
        refine CP1.out.mono ?_
        rintro e w6 ⟨rfl,hb6⟩
        have HB7:=Hd (bthen HB6.out hb6)
        have HB7i:=Hd (bthen HB6i.out hb6)
        have HK6:=Hd (keeps hb6 HK5.out)
        have HR11:=Hd (HR10.out.below hb6)
        clear hb6 CP1 g0 g1 e0 e1 e2 e3 e4
        have g0:w6.cell? ⟨gh,0,none⟩=some (.string hn1):=by simp [World.cell?,HK6.out]
        have g1:w6.cell? ⟨gh,1,none⟩=some (.int .u8 (hk1:Int)):=by simp [World.cell?,HK6.out]
        obtain ⟨e0,e1,e2,e3,e4⟩:=HR11.out.cells
        have CP2:=Hd (ref_places r.by' (by have:=HS.out.b.1;omega) _ (well_rows (checkB_inv HCB.out).1) _ (hn1,hk1) w6 (HR.out.B.below HB7.out))
        generalize placesZ r.fnd (hn1,hk1)=z1 at *
        generalize placesZ r.by' (hn1,hk1)=z2 at *
        by_cases hz1:z1<1
        ·have HX:=Hd (HERR.out w6 (by rw [HHB.out,decide_eq_false (by omega)];rfl) HB7.out)
         go_wp2_with fail
         exact HX.out
        have hhb:=HHB.out
        rw [decide_eq_true (show 1≤z1 by omega),Bool.true_and] at hhb
        have HHB:=Hd hhb
        clear hhb
        go_wp2_with fail
        refine CP2.out.mono ?_
        rintro e w7 ⟨rfl,hb7⟩
        have HB8:=Hd (bthen HB7.out hb7)
        have HB8i:=Hd (bthen HB7i.out hb7)
        clear hb7 CP2 g0 g1 e0 e1 e2 e3 e4
        by_cases hz2:z2<0
        ·have HX:=Hd (HERR.out w7 (by rw [HHB.out,decide_eq_false (by omega)]) HB8.out)
         go_wp2_with fail
         exact HX.out
        ·have HX:=Hd (HNEXT.out w7 (by rw [HHB.out,decide_eq_true (by omega)]) HB8i.out)
         go_wp2_with fail
         exact ⟨HX.out,HMS.out⟩
     ·obtain rfl:k=r.holes.length:=by omega
      have hkl:¬ (r.holes.length:Int)<r.holes.length:=by omega
      have HX:=Hd (HQ.out 0 wr (ruleZ_0 HT1.out HL16.out HS2.out HOK.out) HB7.out)
      go_wp2_with fail
      exact HX.out
end Go.Proofs.YtlkheofphafofaaGreatDoor
namespace Go.Proofs.YtlkheofphafofaaGreatDoor
set_option linter.all false
attribute [local irreducible] Calls
attribute [local irreducible] wpStill
open Go.RowKit

def natI (ns:List Nat):List Int:=ns.map fun (n:Nat)=>(n:Int)
def natV (ns:List Nat):List Value:=ns.map fun (n:Nat)=>Value.int .i64 (n:Int)
theorem natV_length (ns:List Nat):(natV ns).length=ns.length:=by unfold natV;simp
theorem nat_row {w:World} {B:Nat} {v:Value} {ns:List Nat} (h:w.ownsRow B 3 1 v ns.length (natV ns)):RowInts w v .i64 (natI ns):=by
 refine RowInts.of_owns (l:=natI ns) (k:=.i64) (B:=B) (e:=3) (n:=ns.length) ?_
 have e2:(natI ns).map (Value.int .i64)=natV ns:=by unfold natI natV;rw [List.map_map];rfl
 rw [e2];exact h
@[irreducible] def ordPost (r:RuleM) (w0:World) (e:Ending) (w':World):Prop :=
 ∃ v,e=.returned v∧Below w0.heap.size w0 w'∧RowInts w' v .i64 (natI (orderL r.fnd r.holes))
def orRel (f:List Prt) (hs:List Hl) (w1:World) (ov pv:Value) (wr:World):Prop :=
 ∃ k:Nat,pv=.int .i64 (k:Int)∧k≤f.length∧wr.ownsRow w1.heap.size 3 1 ov (ordK f hs k).length (natV (ordK f hs k))∧Below w1.heap.size w1 wr
def orIn (O:List Nat) (h:Nat) (w2:World) (sv jv:Value) (wr:World):Prop :=
 ∃ j:Nat,jv=.int .i64 (j:Int)∧sv=.bool (decide (h∈O.take j))∧j≤O.length∧wr=w2
set_option maxRecDepth 100000 in
set_option maxHeartbeats 16000000 in
theorem ref_Order (r:RuleM) (hs:SmallR r) (vh vf vb:Value) (w:World) (hr:RuleIn w r vh vf vb) :
  Calls Tryz.prog 40 #[ruleAgg r vh vf vb] w (ordPost r w):=by
 have HQ:RowKit.Hid (∀ v w',Below w.heap.size w w'→RowInts w' v .i64 (natI (orderL r.fnd r.holes))→ordPost r w (.returned v) w'):=Hd fun v w' h1 h2=>by unfold ordPost;exact ⟨v,rfl,h1,h2⟩
 generalize ordPost r w=Q at *
 obtain ⟨ah,ch,rfl,hch⟩:=Row.shape hr.H
 obtain ⟨af,cf,rfl,hcf⟩:=hr.F.slice
 obtain ⟨ab,cb,rfl,hcb⟩:=hr.B.slice
 have HR:=Hd hr
 have hhl:=hs.h.1
 have hfl:=hs.f.1
 have HR1:RowKit.Hid (RK (w.alloc (.cells #[.string r.nm,.int .u8 (r.goal:Int),.slice ah r.holes.length ch,.slice af r.fnd.length cf,.slice ab r.by'.length cb] 25)) w.heap.size r.nm r.goal (.slice ah r.holes.length ch) (.slice af r.fnd.length cf) (.slice ab r.by'.length cb)):=Hd (heap_alloc_new _ _)
 have HB1:RowKit.Hid (Below w.heap.size w (w.alloc (.cells #[.string r.nm,.int .u8 (r.goal:Int),.slice ah r.holes.length ch,.slice af r.fnd.length cf,.slice ab r.by'.length cb] 25))):=Hd ((Below.refl _ _).alloc (Nat.le_refl _) _)
 clear hr hs
 unfold ruleAgg
 go_enter Tryz.func40,Tryz.ntmps40
 go_upto_region 1 with (fail)
 generalize w.alloc (.cells #[.string r.nm,.int .u8 (r.goal:Int),.slice ah r.holes.length ch,.slice af r.fnd.length cf,.slice ab r.by'.length cb] 25)=W1 at *
 go_wp2_with fail
 go_loopw [3,4] (fun ov pv wr=>orRel r.fnd r.holes W1 ov pv wr) (fun _ pv _=>r.fnd.length-(intOf pv).toNat)
 case atStart=>exact ⟨0,rfl,Nat.zero_le _,World.ownsRow_nil _ _ _ _,Below.refl _ _⟩
 case round =>
  obtain ⟨k,rfl,hk,ho,hb⟩:=hrel
  obtain ⟨oa,oc,rfl,hoc⟩:=Row.shape (Row.of_owns ho)
  have HB:=Hd hb
  have HO:=Hd ho
  have HOC:=Hd hoc
  clear hoc
  have HBW:=Hd (bthen HB1.out hb)
  have HRr:=Hd (HR1.out.below hb)
  clear hb ho
  obtain ⟨e0,e1,e2,e3,e4⟩:=HRr.out.cells
  by_cases hlt:k<r.fnd.length
  ·have hkl:(k:Int)<r.fnd.length:=by omega
   have hk0:(0:Int)≤(k:Int):=by omega
   have CH:=Hd (ref_Hole r.fnd r.holes hfl hhl k hlt _ _ wr (HR.out.F.below HBW.out) (HR.out.H.below HBW.out))
   have hwk:IntKind.i64.wrap ((k:Int)+1)=(k:Int)+1:=by rw [IntKind.wrap_i64];omega
   go_wp2_with fail
   refine CH.out.mono ?_
   rintro e w2 ⟨rfl,hb2⟩
   have HB2:=Hd (bthen HB.out hb2)
   have HBW2:=Hd (bthen HBW.out hb2)
   have HR2:=Hd (HRr.out.below hb2)
   have HO2:=Hd (owns_below HO.out hb2)
   clear hb2 CH e0 e1 e2 e3 e4 HO HB HRr HBW
   obtain ⟨e0,e1,e2,e3,e4⟩:=HR2.out.cells
   cases hho:holeOf r.fnd r.holes k with
   | none =>
    have hsv:sevOf r.fnd r.holes k=none:=by unfold sevOf;rw [hho]
    have HX:RowKit.Hid (orRel r.fnd r.holes W1 (.slice oa (ordK r.fnd r.holes k).length oc) (.int .i64 ((k:Int)+1)) w2):=Hd ⟨k+1,by push_cast;rfl,hlt,by rw [ordK_none hsv];exact HO2.out,HB2.out⟩
    clear hho hsv
    simp only [holeI]
    go_wp2_with fail
    exact ⟨HX.out,by simp only [intOf];omega⟩
   | some h =>
    have hh:h<r.holes.length:=(holeOf_inv hho).1
    obtain ⟨b1,o1,rfl,_,_,_,hc1⟩:=HR.out.H.at HBW2.out (show 0<r.holes.length by omega)
    obtain ⟨d0,d1⟩:=hc1 h hh
    have CSV:=Hd (ref_Several (r.holes[h]).1 (r.holes[h]).2 w2)
    have HSN:RowKit.Hid (isSev (r.holes[h]).2=false→sevOf r.fnd r.holes k=none):=Hd fun e=>by
     unfold sevOf hkind
     rw [hho]
     simp only []
     rw [List.getElem?_eq_getElem hh]
     simp only []
     rw [if_neg (by rw [e];simp)]
    have HSS:RowKit.Hid (isSev (r.holes[h]).2=true→sevOf r.fnd r.holes k=some h):=Hd fun e=>by
     unfold sevOf hkind
     rw [hho]
     simp only []
     rw [List.getElem?_eq_getElem hh]
     simp only []
     rw [if_pos e]
    have hh0:(0:Int)≤(h:Int):=by omega
    have hhi:(h:Int)<r.holes.length:=by omega
    have hhc:(h:Int)<(ch:Int):=by omega
    have hn0:¬ (h:Int)<0:=by omega
    clear hc1 hho
    generalize (r.holes[h]).1=hn1 at *
    generalize (r.holes[h]).2=hk1 at *
    simp only [holeI]
    go_wp2_with fail
    refine CSV.out.mono ?_
    rintro e w3 ⟨rfl,hb3⟩
    have HB3:=Hd (bthen HB2.out hb3)
    have HO3:=Hd (owns_below HO2.out hb3)
    clear hb3 CSV d0 d1 e0 e1 e2 e3 e4 HB2 HO2 HBW2 HR2
    cases hsv:isSev hk1 with
    | false =>
     have HX:RowKit.Hid (orRel r.fnd r.holes W1 (.slice oa (ordK r.fnd r.holes k).length oc) (.int .i64 ((k:Int)+1)) w3):=Hd ⟨k+1,by push_cast;rfl,hlt,by rw [ordK_none (HSN.out hsv)];exact HO3.out,HB3.out⟩
     clear hsv HSN HSS
     go_wp2_with fail
     exact ⟨HX.out,by simp only [intOf];omega⟩
    | true =>
    have HSO:=Hd (ordK_some (HSS.out hsv))
    have hol:=ordK_len r.fnd r.holes k
    clear hsv HSN HSS
    have HXK:RowKit.Hid (∀ v W,W.ownsRow W1.heap.size 3 1 v (ordK r.fnd r.holes (k+1)).length (natV (ordK r.fnd r.holes (k+1)))→Below W1.heap.size W1 W→orRel r.fnd r.holes W1 v (.int .i64 ((k:Int)+1)) W):=Hd fun v W h1 h2=>⟨k+1,by push_cast;rfl,hlt,h1,h2⟩
    rw [HSO.out] at HXK
    clear HSO
    generalize ordK r.fnd r.holes k=O at *
    have hoc:=HOC.out
    have HOB:RowKit.Hid (O.length≤1048576):=Hd (by omega)
    clear hol
    go_wp2_with fail
    go_loopw [6,7] (fun sv jv wr=>orIn O h w3 sv jv wr) (fun _ jv _=>O.length-(intOf jv).toNat)
    case atStart=>exact ⟨0,rfl,by simp,Nat.zero_le _,rfl⟩
    case round =>
     obtain ⟨j,rfl,rfl,hj,rfl⟩:=hrel
     have hwj:IntKind.i64.wrap ((j:Int)+1)=(j:Int)+1:=by rw [IntKind.wrap_i64];have:=HOB.out;omega
     by_cases hjl:j<O.length
     ·have hji:(j:Int)<O.length:=by omega
      have hj0:(0:Int)≤(j:Int):=by omega
      have hjc:(j:Int)<(oc:Int):=by omega
      have HTK:RowKit.Hid (decide (h∈O.take (j+1))=(decide (h∈O.take j) || (O[j] == h))):=Hd (by
       rw [take_snoc hjl]
       rw [Bool.eq_iff_iff,decide_eq_true_iff,Bool.or_eq_true,decide_eq_true_iff,beq_iff_eq,List.mem_append,List.mem_singleton]
       exact ⟨fun h=>h.imp id Eq.symm,fun h=>h.imp id Eq.symm⟩)
      cases hm:decide (h∈O.take j) with
      | true =>
       have HX:RowKit.Hid (orIn O h wr (.bool true) (.int .i64 ((j:Int)+1)) wr):=Hd ⟨j+1,by push_cast;rfl,by rw [HTK.out,hm];rfl,hjl,rfl⟩
       have hob:=HOB.out
       have hj':j<1048576:=by omega
       clear hm HTK hj hoc hji hj0 hjc hhi hhc hh0 hn0 hwk hkl hk0 hwj HOB HOC HB3 HO3 hob
       go_wp2_with fail
       exact ⟨HX.out,by simp only [intOf];omega⟩
      | false =>
       have ho3:=HO3.out
       rcases ho3.2 with ⟨_,h0⟩ | ⟨g,cap,cur,hv,_,_,_⟩
       ·omega
       simp only [Value.slice.injEq] at hv
       obtain ⟨rfl,_,rfl⟩:=hv
       have c0:wr.cell? ⟨g,j,none⟩=some (.int .i64 ((O[j]:Nat):Int)):=by
        rw [ho3.cellAt _ (by omega)]
        unfold natV
        rw [List.getElem?_map,List.getElem?_eq_getElem hjl];rfl
       have HX:RowKit.Hid (orIn O h wr (.bool (((O[j]:Nat):Int) == (h:Int))) (.int .i64 ((j:Int)+1)) wr):=Hd ⟨j+1,by push_cast;rfl,by
        rw [HTK.out,hm,Bool.false_or]
        congr 1
        rw [Bool.eq_iff_iff,beq_iff_eq,beq_iff_eq];omega,hjl,rfl⟩
       clear hm HTK ho3
       generalize O[j]=x at *
       go_wp2_with fail
       exact ⟨HX.out,by simp only [intOf];omega⟩
     ·obtain rfl:j=O.length:=by omega
      have hji:¬ (O.length:Int)<O.length:=by omega
      rw [List.take_length]
      by_cases hm:h∈O
      ·rw [if_pos hm] at HXK
       rw [decide_eq_true hm]
       have HX:=Hd (HXK.out _ wr HO3.out HB3.out)
       clear hm HXK
       go_wp2_with fail
       exact ⟨HX.out,by simp only [intOf];omega⟩
      ·rw [if_neg hm] at HXK
       rw [decide_eq_false hm]
       clear hm
       have hbs:=HB3.out.size
       have hob:=HOB.out
       clear hoc hj hwj HOC HOB
       go_wp2_with (at_builtin;refine wpList_append_lit wr #[.int .i64 (h:Int)] _ rfl _ _ 49 3 rfl Tryz.underlying49 W1.heap.size Tinfo_int rfl (by decide) _ _ _ rfl HO3.out 1 1 rfl rfl (by decide) (by intro u hu;simp at hu;subst hu;rfl) (by omega) (by omega) hbs ?_)
       intro v' w' hown hgr _
       have hb':=grown_below HB3.out hbs HO3.out hgr
       have HX:RowKit.Hid (orRel r.fnd r.holes W1 v' (.int .i64 ((k:Int)+1)) w'):=Hd (HXK.out v' w' (by
        have e:natV (O++[h])=natV O++[.int .i64 (h:Int)]:=by unfold natV;simp
        rw [e,List.length_append]
        exact hown) hb')
       clear hown hgr hb'
       go_wp2_with fail
       exact ⟨HX.out,by simp only [intOf];omega⟩
  ·obtain rfl:k=r.fnd.length:=by omega
   have hkl:¬ (r.fnd.length:Int)<r.fnd.length:=by omega
   have HX:=Hd (HQ.out (.slice oa (ordK r.fnd r.holes r.fnd.length).length oc) wr HBW.out (by have h:=nat_row HO.out;rw [← ordK_all];exact h))
   go_wp2_with fail
   exact HX.out
end Go.Proofs.YtlkheofphafofaaGreatDoor
namespace Go.Proofs.YtlkheofphafofaaGreatDoor
set_option linter.all false
open Go.RowKit

structure WyE where
 k:SkE
 nm:ByteArray
 goal:Nat
 vh:Value
 vby:Value
 vn:Value
 ns:List Nat
structure WyFix (E:WyE) (w:World):Prop where
 s:w.heap[E.k.g]?=some (.cells #[.string E.nm,.int .u8 (E.goal:Int),E.vh,E.k.vf,E.vby,E.k.vl,E.vn,E.k.vb,E.k.vz] 78 (0,0))
 f:PartRow w E.k.vf E.k.f
 l:PartRow w E.k.vl E.k.l
 h:HoleRow w E.vh E.k.hs
 n:RowInts w E.vn .i64 (natI E.ns)
def WyStat (E:WyE) (w:World):Prop:=∀ w',KeptX E.k w w'→WyFix E w'
theorem WyStat.keep {E:WyE} {w w':World} (h:WyStat E w) (k:KeptX E.k w w'):WyStat E w':=fun x hx=>h x (k.trans hx)
theorem WyStat.now {E:WyE} {w:World} (h:WyStat E w):WyFix E w:=h w (KeptX.refl _ _)
structure WyIn (E:WyE) (σ:MSt) (w:World):Prop where
 st:WyStat E w
 b:w.ownsRow E.k.B 41 3 E.k.vb E.k.hs.length (bindsV (bindsOf E.k.hs σ))
 z:w.ownsRow E.k.B 4 1 E.k.vz E.k.hs.length (boundV σ)
 n:σ.length=E.k.hs.length
 r:∀ (h:Nat) (q:Nat×Nat),σ[h]?=some (some q)→q.1≤q.2∧q.2≤E.k.l.length
structure WyOK (E:WyE):Prop where
 hf:HolesOK E.k.f E.k.hs
 hl:wellB E.k.l=true
 fl:E.k.f.length≤1048576
 ll:E.k.l.length≤1048576
 hn:E.k.hs.length≤1048576
 hk:∀ x∈E.k.hs,x.2<256∧x.1.size≤1048576
 hr:∀ x∈E.k.hs,1≤x.2∧x.2≤7
 fk:SmallL E.k.f
 lk:SmallL E.k.l
 nl:E.ns.length=E.k.hs.length
 nb:∀ n∈E.ns,n≤1000000000
 ne:E.k.vb.ownBlock=none∨E.k.vb.ownBlock≠E.k.vz.ownBlock
 gn:some E.k.g≠E.k.vb.ownBlock∧some E.k.g≠E.k.vz.ownBlock
@[irreducible] def wayPost (E:WyE) (o:Option MSt) (w:World) (e:Ending) (w':World):Prop :=
 KeptX E.k w w'∧match o with
  | some τ=>e=.returned (.bool true)∧WyIn E τ w'
  | none=>e=.returned (.bool false)
theorem wayPost.yes {E:WyE} {o:Option MSt} {τ:MSt} {w w':World} (ho:o=some τ) (h:KeptX E.k w w') (hi:WyIn E τ w'):wayPost E o w (.returned (.bool true)) w':=by
 unfold wayPost;rw [ho];exact ⟨h,rfl,hi⟩
theorem wayPost.no {E:WyE} {o:Option MSt} {w w':World} (ho:o=none) (h:KeptX E.k w w'):wayPost E o w (.returned (.bool false)) w':=by
 unfold wayPost;rw [ho];exact ⟨h,rfl⟩
theorem wayPost.out {E:WyE} {o:Option MSt} {w w':World} {e:Ending} (h:wayPost E o w e w'):KeptX E.k w w'∧((∃ τ,o=some τ∧e=.returned (.bool true)∧WyIn E τ w')∨(o=none∧e=.returned (.bool false))):=by
 unfold wayPost at h
 cases o with
 | some τ=>exact ⟨h.1,Or.inl ⟨τ,rfl,h.2⟩⟩
 | none=>exact ⟨h.1,Or.inr ⟨rfl,h.2⟩⟩
theorem wayPost.from {E:WyE} {o:Option MSt} {w0 w w':World} {e:Ending} (h:wayPost E o w e w') (k:KeptX E.k w0 w):wayPost E o w0 e w':=by
 unfold wayPost at h ⊢
 exact ⟨k.trans h.1,h.2⟩
theorem WyIn.below {E:WyE} {σ:MSt} {w w':World} (h:WyIn E σ w) (hb:Below w.heap.size w w'):WyIn E σ w' :=
 ⟨h.st.keep (KeptX.of_below hb),owns_below h.b hb,owns_below h.z hb,h.n,h.r⟩
theorem WyFix.cells {E:WyE} {w:World} (h:WyFix E w):w.cell? ⟨E.k.g,0,none⟩=some (.string E.nm)∧w.cell? ⟨E.k.g,1,none⟩=some (.int .u8 (E.goal:Int))∧w.cell? ⟨E.k.g,2,none⟩=some E.vh∧w.cell? ⟨E.k.g,3,none⟩=some E.k.vf∧w.cell? ⟨E.k.g,4,none⟩=some E.vby∧w.cell? ⟨E.k.g,5,none⟩=some E.k.vl∧w.cell? ⟨E.k.g,6,none⟩=some E.vn∧w.cell? ⟨E.k.g,7,none⟩=some E.k.vb∧w.cell? ⟨E.k.g,8,none⟩=some E.k.vz:=by
 simp only [World.cell?,h.s]
 exact ⟨rfl,rfl,rfl,rfl,rfl,rfl,rfl,rfl,rfl⟩
theorem WyIn.bindAt {E:WyE} {σ:MSt} {w:World} (h:WyIn E σ w) {k:Nat} (hk:k<E.k.hs.length) {o:Option (Nat×Nat)} (ho:σ[k]?=some o) :
  ∃ gb cb,E.k.vb=.slice (some ⟨gb,0,none⟩) E.k.hs.length cb∧E.k.hs.length≤cb∧E.k.B≤gb∧gb<w.heap.size∧w.cell? ⟨gb,k*3,none⟩=some (.string (E.k.hs[k]).1)∧w.cell? ⟨gb,k*3+1,none⟩=some (.int .i64 (bindOf E.k.hs[k] o).2.1)∧w.cell? ⟨gb,k*3+2,none⟩=some (.int .i64 (bindOf E.k.hs[k] o).2.2)∧∀ j,w.frozen? ⟨gb,j,none⟩=false:=by
 have hb:=h.b
 rcases hb.2 with ⟨_,h0⟩ | ⟨gb,cb,cur,hv,hg,hh,hnc,_,_,_⟩
 ·omega
 ·rw [hv] at hb
  obtain ⟨hh1,he⟩:=binds_get hk h.n ho
  have hc:∀ j,j<3→w.cell? ⟨gb,k*3+j,none⟩=(bindV (bindOf E.k.hs[k] o))[j]?:=fun j hj=>by
   rw [hb.cellAt _ (by omega)]
   unfold bindsV
   rw [flat_at (g:=bindV) (sz:=3) (fun _=>rfl) _ k j hh1 hj,he]
  have hn:(bindOf E.k.hs[k] o).1=(E.k.hs[k]).1:=by cases o <;> rfl
  refine ⟨gb,cb,hv,hnc,hg,keeps_lt hh,?_,hc 1 (by omega),hc 2 (by omega),fun j=>by simp [World.frozen?,hh]⟩
  have:=hc 0 (by omega)
  rw [Nat.add_zero] at this
  rw [this]
  unfold bindV
  rw [hn];rfl
theorem WyIn.boundAt {E:WyE} {σ:MSt} {w:World} (h:WyIn E σ w) {k:Nat} (hk:k<E.k.hs.length) {o:Option (Nat×Nat)} (ho:σ[k]?=some o) :
  ∃ gz cz,E.k.vz=.slice (some ⟨gz,0,none⟩) E.k.hs.length cz∧E.k.hs.length≤cz∧E.k.B≤gz∧gz<w.heap.size∧w.cell? ⟨gz,k,none⟩=some (.bool o.isSome)∧∀ j,w.frozen? ⟨gz,j,none⟩=false:=by
 have hb:=h.z
 rcases hb.2 with ⟨_,h0⟩ | ⟨gz,cz,cur,hv,hg,hh,hnc,_,_,_⟩
 ·omega
 ·rw [hv] at hb
  refine ⟨gz,cz,hv,hnc,hg,keeps_lt hh,?_,fun j=>by simp [World.frozen?,hh]⟩
  rw [hb.cellAt _ (by omega)]
  unfold boundV
  rw [List.getElem?_map,ho];rfl
theorem WyIn.store {E:WyE} {σ:MSt} {w:World} (h:WyIn E σ w) (ne:E.k.vb.ownBlock=none∨E.k.vb.ownBlock≠E.k.vz.ownBlock) {k:Nat} (hk:k<E.k.hs.length) {q:Nat×Nat} (hr:q.1≤q.2∧q.2≤E.k.l.length) {gb cb gz cz:Nat} (hvb:E.k.vb=.slice (some ⟨gb,0,none⟩) E.k.hs.length cb) (hvz:E.k.vz=.slice (some ⟨gz,0,none⟩) E.k.hs.length cz) :
  WyIn E (σ.set k (some q)) (((w.setCell ⟨gz,k,none⟩ (.bool true)).setCell ⟨gb,k*3+1,none⟩ (.int .i64 (q.1:Int))).setCell ⟨gb,k*3+2,none⟩ (.int .i64 (q.2:Int))) ∧
  KeptX E.k w (((w.setCell ⟨gz,k,none⟩ (.bool true)).setCell ⟨gb,k*3+1,none⟩ (.int .i64 (q.1:Int))).setCell ⟨gb,k*3+2,none⟩ (.int .i64 (q.2:Int))):=by
 have hbo:some gb=E.k.vb.ownBlock:=by rw [hvb];rfl
 have hzo:some gz=E.k.vz.ownBlock:=by rw [hvz];rfl
 have hbz:gb≠gz:=by
  rcases ne with e | e
  ·rw [← hbo] at e;cases e
  ·intro e2;apply e;rw [← hbo,← hzo,e2]
 have hb:=h.b
 have hz:=h.z
 rw [hvb] at hb
 rw [hvz] at hz
 have hbl:(bindsV (bindsOf E.k.hs σ)).length=E.k.hs.length*3:=by rw [bindsV_length,binds_len h.n]
 have hzl:(boundV σ).length=E.k.hs.length:=by unfold boundV;rw [List.length_map];exact h.n
 have e0:(bindsV (bindsOf E.k.hs σ)).set (k*3) (.string (E.k.hs[k]).1)=bindsV (bindsOf E.k.hs σ):=by
  obtain ⟨o,ho⟩:∃ o,σ[k]?=some o:=⟨σ[k]'(by rw [h.n];exact hk),List.getElem?_eq_getElem _⟩
  obtain ⟨hh1,he⟩:=binds_get hk h.n ho
  apply List.ext_getElem?
  intro j
  by_cases e:k*3=j
  ·subst e
   rw [List.getElem?_set_self (by omega)]
   have:=flat_at (g:=bindV) (sz:=3) (fun _=>rfl) (bindsOf E.k.hs σ) k 0 hh1 (by decide)
   rw [Nat.add_zero,he] at this
   unfold bindsV
   rw [this]
   have hn:(bindOf E.k.hs[k] o).1=(E.k.hs[k]).1:=by cases o <;> rfl
   unfold bindV
   rw [hn];rfl
  ·rw [List.getElem?_set_ne e]
 have e1:((bindsV (bindsOf E.k.hs σ)).set (k*3+1) (.int .i64 (q.1:Int))).set (k*3+2) (.int .i64 (q.2:Int))=bindsV (bindsOf E.k.hs (σ.set k (some q))):=by
  rw [← e0]
  unfold bindsV
  rw [list_set3 (g:=bindV) (fun _=>rfl) _ k (bindOf E.k.hs[k] (some q)) (.string (E.k.hs[k]).1) (.int .i64 (q.1:Int)) (.int .i64 (q.2:Int)) (by rw [binds_len h.n];exact hk) rfl,bindsOf_set _ _ _ _ hk h.n]
 have e2:(boundV σ).set k (.bool true)=boundV (σ.set k (some q)):=(boundV_set σ k (some q)).symm
 have t1:=owns_set hz k (by omega) (.bool true)
 rw [e2] at t1
 have t2:(((w.setCell ⟨gz,k,none⟩ (.bool true)).setCell ⟨gb,k*3+1,none⟩ (.int .i64 (q.1:Int))).setCell ⟨gb,k*3+2,none⟩ (.int .i64 (q.2:Int))).ownsRow E.k.B 4 1 (.slice (some ⟨gz,0,none⟩) E.k.hs.length cz) E.k.hs.length (boundV (σ.set k (some q))) :=
  ownsRow_setCell_other (ownsRow_setCell_other t1 (by simp [Value.ownBlock];omega) _) (by simp [Value.ownBlock];omega) _
 have u1:=ownsRow_setCell_other hb (a:=⟨gz,k,none⟩) (by simp [Value.ownBlock];omega) (.bool true)
 have u2:=owns_set (owns_set u1 (k*3+1) (by omega) (.int .i64 (q.1:Int))) (k*3+2) (by rw [List.length_set];omega) (.int .i64 (q.2:Int))
 rw [e1] at u2
 have K0:=(((KeptX.refl E.k w).set (Or.inr hzo) (j:=k) (.bool true)).set (Or.inl hbo) (j:=k*3+1) (.int .i64 (q.1:Int))).set (Or.inl hbo) (j:=k*3+2) (.int .i64 (q.2:Int))
 refine ⟨⟨h.st.keep K0,by rw [hvb];exact u2,by rw [hvz];exact t2,by rw [List.length_set];exact h.n,fun j q' hq=>?_⟩,K0⟩
 by_cases e:k=j
 ·subst e
  by_cases hl:k<σ.length
  ·rw [List.getElem?_set_self hl] at hq
   obtain rfl:=Option.some.inj (Option.some.inj hq)
   exact hr
  ·rw [List.getElem?_eq_none (by simp;omega)] at hq;cases hq
 ·rw [List.getElem?_set_ne e] at hq;exact h.r j q' hq
theorem WyStat.holes {E:WyE} {w:World} (h:WyStat E w) (hp:0<E.k.hs.length):∃ b off cap,E.vh=.slice (some ⟨b,off,none⟩) E.k.hs.length cap∧E.k.hs.length≤cap∧∀ w',KeptX E.k w w'→∀ i (hi:i<E.k.hs.length),w'.cell? ⟨b,off+i*2,none⟩=some (.string (E.k.hs[i]).1)∧w'.cell? ⟨b,off+i*2+1,none⟩=some (.int .u8 ((E.k.hs[i]).2:Int)):=by
 obtain ⟨a,cap,e,hc⟩:=Row.shape h.now.h
 have h1:=h.now.h
 rw [e] at h1
 obtain ⟨b,off,rfl,_,_,_,_⟩:=h1.at (Below.refl _ _) hp
 refine ⟨b,off,cap,e,hc,fun w' hk i hi=>?_⟩
 have h2:=(h w' hk).h
 rw [e] at h2
 obtain ⟨b',off',e',_,_,_,hcell⟩:=h2.at (Below.refl _ _) hp
 simp only [Option.some.injEq,Addr.mk.injEq,and_true] at e'
 obtain ⟨rfl,rfl⟩:=e'
 exact hcell i hi
theorem WyStat.nums {E:WyE} {w:World} (h:WyStat E w) (hp:0<E.ns.length):∃ b off cap,E.vn=.slice (some ⟨b,off,none⟩) E.ns.length cap∧E.ns.length≤cap∧∀ w',KeptX E.k w w'→∀ i (hi:i<E.ns.length),w'.cell? ⟨b,off+i,none⟩=some (.int .i64 ((E.ns[i]:Nat):Int)):=by
 have hl:(natI E.ns).length=E.ns.length:=by unfold natI;simp
 obtain ⟨b,off,cap,e,hc,_⟩:=row_ints h.now.n (by omega)
 rw [hl] at e hc
 refine ⟨b,off,cap,e,hc,fun w' hk i hi=>?_⟩
 obtain ⟨b',off',cap',e',_,hcell⟩:=row_ints (h w' hk).n (by omega)
 rw [e,hl] at e'
 simp only [Value.slice.injEq,Option.some.injEq,Addr.mk.injEq,and_true,true_and] at e'
 obtain ⟨⟨rfl,rfl⟩,rfl⟩:=e'
 rw [hcell i (by omega)]
 unfold natI
 rw [List.getElem_map]
theorem WyStat.parts {E:WyE} {w:World} {L:List Prt} {v:Value} (hv:∀ w',KeptX E.k w w'→PartRow w' v L) (hp:0<L.length):∃ b off cap,v=.slice (some ⟨b,off,none⟩) L.length cap∧L.length≤cap∧∀ w',KeptX E.k w w'→∀ i (hi:i<L.length),w'.cell? ⟨b,off+i*3,none⟩=some (.int .u8 (L[i].1:Int))∧w'.cell? ⟨b,off+i*3+1,none⟩=some (.int .i64 L[i].2.1)∧w'.cell? ⟨b,off+i*3+2,none⟩=some (.string L[i].2.2):=by
 obtain ⟨a,cap,e,hc⟩:=(hv w (KeptX.refl _ _)).slice
 have h1:=hv w (KeptX.refl _ _)
 rw [e] at h1
 obtain ⟨b,off,rfl,_,_,_,_⟩:=h1.at (Below.refl _ _) hp
 refine ⟨b,off,cap,e,hc,fun w' hk i hi=>?_⟩
 have h2:=hv w' hk
 rw [e] at h2
 obtain ⟨b',off',e',_,_,_,hcell⟩:=h2.at (Below.refl _ _) hp
 simp only [Option.some.injEq,Addr.mk.injEq,and_true] at e'
 obtain ⟨rfl,rfl⟩:=e'
 exact hcell i hi
end Go.Proofs.YtlkheofphafofaaGreatDoor
