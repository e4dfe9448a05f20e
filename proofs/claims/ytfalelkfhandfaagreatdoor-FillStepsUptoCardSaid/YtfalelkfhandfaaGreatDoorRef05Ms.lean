/- Layer 5: the document's digit, Row, under, headed, walked. -/
import Derived.Test.YtfalelkfhandfaaGreatDoorPackMs
import Derived.Test.YtfalelkfhandfaaGreatDoorCoreMs
import Derived.Test.YtfalelkfhandfaaGreatDoorMatchP2Ms
namespace Go.Proofs.YtfalelkfhandfaaGreatDoor
set_option maxRecDepth 100000
set_option maxHeartbeats 32000000
set_option linter.all false
open Go.RowKit

abbrev lowT:ByteArray:=⟨#[48,49,50,51,52,53,54,55,56,57,97,98,99,100,101,102]⟩
abbrev bigT:ByteArray:=⟨#[48,49,50,51,52,53,54,55,56,57,65,66,67,68,69,70]⟩
theorem zZz:∀ c:Nat,c<256→∀ i:Nat,i<16→((bt lowT i=c∨bt bigT i=c)↔dval c=i):=by decide +kernel
theorem zTv (c b:Nat) (hc:c<256) (hb:b≤16) (w:World) :
  Calls Tryz.prog 151 #[.int .u8 (c:Int),.int .i64 (b:Int)] w fun e w'=>e=.returned (.bool (decide (dval c<b)))∧w=w':=by
 have HQ:Hid (∀ x,decide (dval c<b)=x→(fun (e:Ending) w'=>e=.returned (.bool (decide (dval c<b)))∧w=w') (.returned (.bool x)) w):=Hd fun x h=>⟨by rw [h],rfl⟩
 have HT:=Hd (zZz c hc)
 generalize (fun (e:Ending) w'=>e=.returned (.bool (decide (dval c<b)))∧w=w')=Q at *
 go_enter Tryz.func151,Tryz.ntmps151
 go_wp2_with fail
 go_loopw [7] (fun i wr=>∃ k:Nat,i=.int .i64 k∧k≤b∧¬ dval c<k∧wr=w) (fun i _=>b-(intOf i).toNat)
 case atStart=>exact ⟨0,rfl,Nat.zero_le _,by omega,rfl⟩
 case round =>
  obtain ⟨k,rfl,hk,hn,rfl⟩:=hrel
  by_cases hlt:k<b
  ·have hlt':(k:Int)<b:=by omega
   have h16:k<16:=by omega
   have h16':(k:Int)<16:=by omega
   have hk0:(0:Int)≤k:=by omega
   have e1:=yH lowT k h16
   have e2:=yH bigT k h16
   have hd:=HT.out k h16
   have hwk:IntKind.i64.wrap ((k:Int)+1)=((k+1:Nat):Int):=wI (by omega)
   have HNX:Hid (dval c≠k→¬ dval c<k+1):=Hd (by omega)
   have HYES:Hid (dval c=k→dval c<b):=Hd (by omega)
   generalize bt lowT k=x at *
   generalize bt bigT k=y at *
   clear hn
   by_cases hx:x=c
   ·subst hx
    have hy:=HYES.out (hd.1 (Or.inl rfl))
    clear hd
    go_wp2_with fail
    exact HQ.out true (decide_eq_true hy)
   ·have hxb:((x:Int) == (c:Int))=false:=by rw [beq_eq_false_iff_ne];omega
    by_cases hy:y=c
    ·subst hy
     have hy:=HYES.out (hd.1 (Or.inr rfl))
     clear hd
     go_wp2_with fail
     exact HQ.out true (decide_eq_true hy)
    ·have hyb:((y:Int) == (c:Int))=false:=by rw [beq_eq_false_iff_ne];omega
     have hne:=HNX.out (fun g=>by rcases hd.2 g with g | g;exact hx g;exact hy g)
     have HNE:=Hd hne
     clear hd hne
     go_wp2_with fail
     refine ⟨⟨k+1,congrArg (Value.int .i64) (by omega),hlt,HNE.out,(by first | trivial | rfl)⟩,?_⟩
     simp only [intOf]
     omega
  ·have hlt':¬ (k:Int)<b:=by omega
   obtain rfl:k=b:=by omega
   go_wp2_with fail
   exact HQ.out false (decide_eq_false hn)
end Go.Proofs.YtfalelkfhandfaaGreatDoor
namespace Go.Proofs.YtfalelkfhandfaaGreatDoor
set_option maxRecDepth 100000
set_option maxHeartbeats 32000000
set_option linter.all false
open Go.RowKit

theorem jJ (s:ByteArray) (i:Nat):zA (s.extract i s.size)=(zA s).drop i:=by
 unfold zA
 rw [zDq,List.map_drop]
theorem zBp (s:ByteArray) (i:Nat):zA (s.extract 0 i)=(zA s).take i:=by
 unfold zA
 rw [jI,List.drop_zero,Nat.sub_zero,List.map_take]
theorem gG (s:ByteArray) (i:Nat) (h:i<s.size):(zA s).getD i 0=bt s i:=by
 rw [List.getD_eq_getElem?_getD,kG s i h];rfl
theorem yAa (s:ByteArray):(zA s).isEmpty=decide (s.size=0):=by
 rw [Bool.eq_iff_iff,List.isEmpty_iff_length_eq_zero,zH,decide_eq_true_eq]
theorem zMc (s:ByteArray) (h:0<s.size):(zA s).head?=some (bt s 0):=by
 rw [List.head?_eq_getElem?,kG s 0 h]
def okR (s:ByteArray) (b j:Nat):Bool:=(bt s j == 95&&bt s (j-1) != 95) || decide (dval (bt s j)<b)
theorem zHy {b:Nat} (hb:b≤16) (s:ByteArray):rowOK b (zA s)=true↔0<s.size∧dval (bt s 0)<b∧dval (bt s (s.size-1))<b∧∀ j,j<s.size→okR s b j=true:=by
 rw [← zZr hb]
 unfold rowR
 rw [yAa,zH]
 simp only [Bool.and_eq_true,Bool.not_eq_true',decide_eq_false_iff_not,decide_eq_true_eq,List.all_eq_true,List.mem_range]
 constructor
 ·rintro ⟨⟨⟨h0,h1⟩,h2⟩,h3⟩
  rw [gG s 0 (by omega)] at h1
  rw [gG s _ (by omega)] at h2
  refine ⟨by omega,h1,h2,fun j hj=>?_⟩
  have:=h3 j hj
  rw [gG s j hj,gG s (j-1) (by omega)] at this
  exact this
 ·rintro ⟨h0,h1,h2,h3⟩
  refine ⟨⟨⟨by omega,by rw [gG s 0 h0];exact h1⟩,by rw [gG s _ (by omega)];exact h2⟩,fun j hj=>?_⟩
  rw [gG s j hj,gG s (j-1) (by omega)]
  exact h3 j hj
theorem yBg {b:Nat} (hb:b≤16) {s:ByteArray} (h:¬ (0<s.size∧dval (bt s 0)<b∧dval (bt s (s.size-1))<b∧∀ j,j<s.size→okR s b j=true)):rowOK b (zA s)=false:=by
 cases g:rowOK b (zA s) with
 | false=>rfl
 | true=>exact absurd ((zHy hb s).1 g) h
theorem fL (s:ByteArray) (b:Nat) (hb:b≤16) (hs:s.size≤2147483647) (w:World) :
  Calls Tryz.prog 130 #[.string s,.int .i64 (b:Int)] w fun e w'=>e=.returned (.bool (rowOK b (zA s)))∧w=w':=by
 have HQ:Hid (∀ x,rowOK b (zA s)=x→(fun (e:Ending) w'=>e=.returned (.bool (rowOK b (zA s)))∧w=w') (.returned (.bool x)) w):=Hd fun x h=>⟨by rw [h],rfl⟩
 have HNO:=Hd (@yBg b hb s)
 have HYES:=Hd (zHy hb s)
 have CD:=Hd (fun j=>zTv (bt s j) b (xR s j) hb w)
 generalize (fun (e:Ending) w'=>e=.returned (.bool (rowOK b (zA s)))∧w=w')=Q at *
 by_cases h0:s.size=0
 ·have h0':(s.size:Int)=0:=by omega
  have HF:=Hd (HNO.out (fun g=>by omega))
  go_enter Tryz.func130,Tryz.ntmps130
  go_wp2_with fail
  exact HQ.out false HF.out
 ·have h0':((s.size:Int) == 0)=false:=by rw [beq_eq_false_iff_ne];omega
  have hp:0<s.size:=by omega
  have hpI:(0:Int)<s.size:=by omega
  have y0:=yH s 0 hp
  have yl:=yH s (s.size-1) (by omega)
  have hwm:IntKind.i64.wrap ((s.size:Int)-1)=((s.size-1:Nat):Int):=wI (by omega)
  have hl1:((s.size-1:Nat):Int)<s.size:=by omega
  have hl2:(0:Int)≤((s.size-1:Nat):Int):=by omega
  have hl3:s.size-1<s.size:=by omega
  have hl4:(s.size:Int)-1<s.size:=by omega
  have hl5:(0:Int)≤(s.size:Int)-1:=by omega
  have hl6:((s.size:Int)-1).toNat=s.size-1:=by omega
  have CD0:=CD.out 0
  have CDl:=CD.out (s.size-1)
  clear h0
  cases hd0:decide (dval (bt s 0)<b) with
  | false =>
   rw [hd0] at CD0
   have HF:=Hd (HNO.out (fun g=>absurd g.2.1 (of_decide_eq_false hd0)))
   have CD0:=Hd CD0
   clear CDl hd0 yl
   go_enter Tryz.func130,Tryz.ntmps130
   go_wp2_with fail
   refine CD0.out.mono ?_
   rintro e w' ⟨rfl,rfl⟩
   go_wp2_with fail
   exact HQ.out false HF.out
  | true =>
   rw [hd0] at CD0
   have CD0:=Hd CD0
   have HD0:=Hd (of_decide_eq_true hd0)
   clear hd0
   cases hdl:decide (dval (bt s (s.size-1))<b) with
   | false =>
    rw [hdl] at CDl
    have HF:=Hd (HNO.out (fun g=>absurd g.2.2.1 (of_decide_eq_false hdl)))
    have CDl:=Hd CDl
    clear hdl
    go_enter Tryz.func130,Tryz.ntmps130
    go_wp2_with fail
    refine CD0.out.mono ?_
    rintro e w' ⟨rfl,rfl⟩
    go_wp2_with fail
    refine CDl.out.mono ?_
    rintro e w' ⟨rfl,rfl⟩
    go_wp2_with fail
    exact HQ.out false HF.out
   | true =>
    rw [hdl] at CDl
    have CDl:=Hd CDl
    have HDl:=Hd (of_decide_eq_true hdl)
    clear hdl
    go_enter Tryz.func130,Tryz.ntmps130
    go_wp2_with fail
    refine CD0.out.mono ?_
    rintro e w' ⟨rfl,rfl⟩
    go_wp2_with fail
    refine CDl.out.mono ?_
    rintro e w' ⟨rfl,rfl⟩
    go_wp2_with fail
    clear y0 yl
    go_loopw [5] (fun i wr=>∃ k:Nat,i=.int .i64 k∧k≤s.size∧Hid (∀ j,j<k→okR s b j=true)∧wr=w) (fun i _=>s.size-(intOf i).toNat)
    case atStart=>exact ⟨0,rfl,Nat.zero_le _,Hd (fun j h=>by omega),rfl⟩
    case round =>
     obtain ⟨k,rfl,hk,HA,rfl⟩:=hrel
     by_cases hlt:k<s.size
     ·have hlt':(k:Int)<s.size:=by omega
      have hk0:(0:Int)≤k:=by omega
      have yk:=yH s k hlt
      have hwk:IntKind.i64.wrap ((k:Int)+1)=((k+1:Nat):Int):=wI (by omega)
      have HGO:Hid (okR s b k=true→∀ j,j<k+1→okR s b j=true):=Hd fun h j hj=>by
       rcases Nat.lt_or_ge j k with q | q
       ·exact HA.out j q
       ·obtain rfl:j=k:=by omega
        exact h
      have CDk:=CD.out k
      by_cases h95:bt s k=95∧bt s (k-1)≠95
      ·obtain ⟨h1,h2⟩:=h95
       have hk1:0<k:=by
        rcases Nat.eq_zero_or_pos k with g | g
        ·subst g;exact absurd h1 h2
        ·exact g
       have yp:=yH s (k-1) (by omega)
       have w1:IntKind.i64.wrap ((k:Int)-1)=((k-1:Nat):Int):=wI (by omega)
       have w2:(k:Int)-1<s.size:=by omega
       have w3:(0:Int)≤(k:Int)-1:=by omega
       have w4:((k:Int)-1).toNat=k-1:=by omega
       have w5:((k-1:Nat):Int)<s.size:=by omega
       have HN:=Hd (HGO.out (by unfold okR;simp [h1,h2]))
       have h2b:((bt s (k-1):Int) == 95)=false:=by rw [beq_eq_false_iff_ne];omega
       have h1b:((bt s k:Int) == 95)=true:=by rw [beq_iff_eq];omega
       clear h1 h2 CDk HGO
       generalize bt s (k-1)=d at *
       generalize bt s k=c at *
       go_wp2_with fail
       refine ⟨⟨k+1,congrArg (Value.int .i64) (by omega),hlt,HN.out,(by first | trivial | rfl)⟩,?_⟩
       simp only [intOf]
       omega
      ·have HC:Hid (dval (bt s k)<b→okR s b k=true):=Hd fun h=>by unfold okR;simp [h]
       have HX:Hid (¬ dval (bt s k)<b→okR s b k=false):=Hd fun h=>by
        unfold okR
        rw [decide_eq_false h,Bool.or_false,Bool.and_eq_false_iff]
        by_cases g:bt s k=95
        ·exact Or.inr (by simp;exact Classical.byContradiction fun q=>h95 ⟨g,q⟩)
        ·exact Or.inl (by simpa using g)
       have HFIN:Hid (okR s b k=false→rowOK b (zA s)=false):=Hd fun h=>HNO.out (fun g=>by rw [g.2.2.2 k hlt] at h;cases h)
       cases hdk:decide (dval (bt s k)<b) with
       | true =>
        rw [hdk] at CDk
        have CDk:=Hd CDk
        have HN:=Hd (HGO.out (HC.out (of_decide_eq_true hdk)))
        have hn95:bt s k≠95:=fun g=>by have:=of_decide_eq_true hdk;rw [g,jS] at this;omega
        have h1b:((bt s k:Int) == 95)=false:=by rw [beq_eq_false_iff_ne];omega
        clear hdk h95 HGO HC HX hn95
        generalize bt s k=c at *
        go_wp2_with fail
        refine CDk.out.mono ?_
        rintro e w' ⟨rfl,rfl⟩
        go_wp2_with fail
        refine ⟨⟨k+1,congrArg (Value.int .i64) (by omega),hlt,HN.out,(by first | trivial | rfl)⟩,?_⟩
        simp only [intOf]
        omega
       | false =>
        rw [hdk] at CDk
        have CDk:=Hd CDk
        have HF:=Hd (HFIN.out (HX.out (of_decide_eq_false hdk)))
        clear hdk HGO HC HX HFIN
        by_cases g95:bt s k=95
        ·have g2:bt s (k-1)=95:=Classical.byContradiction fun q=>h95 ⟨g95,q⟩
         have hk1:0<k:=by
          rcases Nat.eq_zero_or_pos k with g | g
          ·exfalso
           subst g
           have:=HD0.out
           rw [g95,jS] at this;omega
          ·exact g
         have yp:=yH s (k-1) (by omega)
         rw [g2] at yp
         rw [g95] at yk CDk
         have w1:IntKind.i64.wrap ((k:Int)-1)=((k-1:Nat):Int):=wI (by omega)
         have w2:(k:Int)-1<s.size:=by omega
         have w3:(0:Int)≤(k:Int)-1:=by omega
         have w4:((k:Int)-1).toNat=k-1:=by omega
         have w5:((k-1:Nat):Int)<s.size:=by omega
         clear h95 g95 g2
         go_wp2_with fail
         refine CDk.out.mono ?_
         rintro e w' ⟨rfl,rfl⟩
         go_wp2_with fail
         exact HQ.out false HF.out
        ·have h1b:((bt s k:Int) == 95)=false:=by rw [beq_eq_false_iff_ne];omega
         clear h95 g95
         generalize bt s k=c at *
         go_wp2_with fail
         refine CDk.out.mono ?_
         rintro e w' ⟨rfl,rfl⟩
         go_wp2_with fail
         exact HQ.out false HF.out
     ·have hlt':¬ (k:Int)<s.size:=by omega
      obtain rfl:k=s.size:=by omega
      have HF:=Hd (HYES.out.2 ⟨hp,HD0.out,HDl.out,HA.out⟩)
      go_wp2_with fail
      exact HQ.out true HF.out
end Go.Proofs.YtfalelkfhandfaaGreatDoor
namespace Go.Proofs.YtfalelkfhandfaaGreatDoor
set_option maxRecDepth 100000
set_option maxHeartbeats 32000000
set_option linter.all false
open Go.RowKit

theorem zQp (b:Nat) (s:ByteArray):yI b (zA s)=(rowOK b (zA s) || (decide (1<s.size)&&(bt s 0 == 95&&rowOK b (zA (s.extract 1 s.size))))):=by
 unfold yI
 rw [zH,jJ]
 by_cases h:1<s.size
 ·rw [zMc s (by omega)];rfl
 ·rw [decide_eq_false h];rfl
theorem kZ (x y:Nat) (s:ByteArray):zT x y (zA s)=(decide (2≤s.size)&&(bt s 0 == 48&&(bt s 1 == x || bt s 1 == y))):=by
 unfold zT
 rw [zH]
 by_cases h:2≤s.size
 ·rw [zMc s (by omega),kG s 1 (by omega)];rfl
 ·rw [decide_eq_false h];rfl
theorem zXb (x y:Nat) (s:ByteArray):powR x y (zA s)=(decide (2≤s.size)&&((bt s 0 == x || bt s 0 == y)&&(if bt s 1=43∨bt s 1=45 then rowOK 10 (zA (s.extract 2 s.size)) else rowOK 10 (zA (s.extract 1 s.size))))):=by
 unfold powR
 rw [zH,jJ,jJ]
 by_cases h:2≤s.size
 ·rw [zMc s (by omega),kG s 1 (by omega)]
  simp only [Option.some.injEq]
  rfl
 ·rw [decide_eq_false h];rfl
theorem gS (s:ByteArray) (b:Nat) (hb:b≤16) (hs:s.size≤2147483647) (w:World) :
  Calls Tryz.prog 147 #[.string s,.int .i64 (b:Int)] w fun e w'=>e=.returned (.bool (yI b (zA s)))∧w=w':=by
 have HQ:Hid (∀ x,yI b (zA s)=x→(fun (e:Ending) w'=>e=.returned (.bool (yI b (zA s)))∧w=w') (.returned (.bool x)) w):=Hd fun x h=>⟨by rw [h],rfl⟩
 have HV:=Hd (zQp b s)
 have C1:=fL s b hb hs w
 have C2:=fL (s.extract 1 s.size) b hb (by rw [ByteArray.size_extract];omega) w
 generalize (fun (e:Ending) w'=>e=.returned (.bool (yI b (zA s)))∧w=w')=Q at *
 generalize rowOK b (zA s)=r1 at *
 generalize rowOK b (zA (s.extract 1 s.size))=r2 at *
 have C1:=Hd C1
 have C2:=Hd C2
 cases r1 with
 | true =>
  have HF:=Hd (show yI b (zA s)=true by rw [HV.out];rfl)
  go_enter Tryz.func147,Tryz.ntmps147
  go_wp2_with fail
  refine C1.out.mono ?_
  rintro e w' ⟨rfl,rfl⟩
  go_wp2_with fail
  exact HQ.out true HF.out
 | false =>
  by_cases h1:1<s.size
  ·have h1':(1:Int)<s.size:=by omega
   have h1'':(1:Int)≤s.size:=by omega
   have h0':(0:Int)<s.size:=by omega
   have y0:=yH s 0 (by omega)
   rw [decide_eq_true h1] at HV
   by_cases h95:bt s 0=95
   ·have HF:=Hd (show yI b (zA s)=r2 by rw [HV.out,h95];cases r2 <;> rfl)
    rw [h95] at y0
    clear h95
    go_enter Tryz.func147,Tryz.ntmps147
    go_wp2_with fail
    refine C1.out.mono ?_
    rintro e w' ⟨rfl,rfl⟩
    go_wp2_with fail
    refine C2.out.mono ?_
    rintro e w' ⟨rfl,rfl⟩
    go_wp2_with fail
    exact HQ.out _ HF.out
   ·have h95b:((bt s 0:Int) == 95)=false:=by rw [beq_eq_false_iff_ne];omega
    have HF:=Hd (show yI b (zA s)=false by rw [HV.out,show (bt s 0 == 95)=false by simpa using h95];rfl)
    clear h95
    go_enter Tryz.func147,Tryz.ntmps147
    go_wp2_with fail
    refine C1.out.mono ?_
    rintro e w' ⟨rfl,rfl⟩
    go_wp2_with fail
    exact HQ.out _ HF.out
  ·have h1':¬ (1:Int)<s.size:=by omega
   have HF:=Hd (show yI b (zA s)=false by rw [HV.out,decide_eq_false h1];rfl)
   go_enter Tryz.func147,Tryz.ntmps147
   go_wp2_with fail
   refine C1.out.mono ?_
   rintro e w' ⟨rfl,rfl⟩
   go_wp2_with fail
   exact HQ.out _ HF.out
theorem zAv (s:ByteArray) (x y:Nat) (hs:s.size≤2147483647) (w:World) :
  Calls Tryz.prog 148 #[.string s,.int .u8 (x:Int),.int .u8 (y:Int)] w fun e w'=>e=.returned (.bool (zT x y (zA s)))∧w=w':=by
 have HQ:Hid (∀ r,zT x y (zA s)=r→(fun (e:Ending) w'=>e=.returned (.bool (zT x y (zA s)))∧w=w') (.returned (.bool r)) w):=Hd fun r h=>⟨by rw [h],rfl⟩
 have HV:=Hd (kZ x y s)
 generalize (fun (e:Ending) w'=>e=.returned (.bool (zT x y (zA s)))∧w=w')=Q at *
 by_cases h2:2≤s.size
 ·have h2':(2:Int)≤s.size:=by omega
  have h0':(0:Int)<s.size:=by omega
  have h1':(1:Int)<s.size:=by omega
  have y0:=yH s 0 (by omega)
  have y1:=yH s 1 (by omega)
  rw [decide_eq_true h2] at HV
  generalize bt s 0=c at *
  generalize bt s 1=d at *
  by_cases hc:c=48
  ·subst hc
   by_cases hx:d=x
   ·subst hx
    have HF:=Hd (show zT d y (zA s)=true by rw [HV.out];simp)
    go_enter Tryz.func148,Tryz.ntmps148
    go_wp2_with fail
    exact HQ.out _ HF.out
   ·have hxb:((d:Int) == (x:Int))=false:=by rw [beq_eq_false_iff_ne];omega
    have HF:=Hd (show zT x y (zA s)=(d == y) by rw [HV.out,show (d == x)=false by simpa using hx];simp)
    by_cases hy:d=y
    ·subst hy
     have HF2:=Hd (show zT x d (zA s)=true by rw [HF.out];simp)
     clear hx
     go_enter Tryz.func148,Tryz.ntmps148
     go_wp2_with fail
     exact HQ.out _ HF2.out
    ·have hyb:((d:Int) == (y:Int))=false:=by rw [beq_eq_false_iff_ne];omega
     have HF2:=Hd (show zT x y (zA s)=false by rw [HF.out];simpa using hy)
     clear hx hy
     go_enter Tryz.func148,Tryz.ntmps148
     go_wp2_with fail
     exact HQ.out _ HF2.out
  ·have hcb:((c:Int) == 48)=false:=by rw [beq_eq_false_iff_ne];omega
   have HF:=Hd (show zT x y (zA s)=false by rw [HV.out,show (c == 48)=false by simpa using hc];simp)
   clear hc
   go_enter Tryz.func148,Tryz.ntmps148
   go_wp2_with fail
   exact HQ.out _ HF.out
 ·have h2':¬ (2:Int)≤s.size:=by omega
  have HF:=Hd (show zT x y (zA s)=false by rw [HV.out,decide_eq_false h2];rfl)
  go_enter Tryz.func148,Tryz.ntmps148
  go_wp2_with fail
  exact HQ.out _ HF.out
theorem zTw (s:ByteArray) (x y:Nat) (hs:s.size≤2147483647) (w:World) :
  Calls Tryz.prog 149 #[.string s,.int .u8 (x:Int),.int .u8 (y:Int)] w fun e w'=>e=.returned (.bool (powR x y (zA s)))∧w=w':=by
 have HQ:Hid (∀ r,powR x y (zA s)=r→(fun (e:Ending) w'=>e=.returned (.bool (powR x y (zA s)))∧w=w') (.returned (.bool r)) w):=Hd fun r h=>⟨by rw [h],rfl⟩
 have HV:=Hd (zXb x y s)
 have C1:=fL (s.extract 1 s.size) 10 (by omega) (by rw [ByteArray.size_extract];omega) w
 have C2:=fL (s.extract 2 s.size) 10 (by omega) (by rw [ByteArray.size_extract];omega) w
 generalize (fun (e:Ending) w'=>e=.returned (.bool (powR x y (zA s)))∧w=w')=Q at *
 generalize rowOK 10 (zA (s.extract 1 s.size))=r1 at *
 generalize rowOK 10 (zA (s.extract 2 s.size))=r2 at *
 have C1:=Hd C1
 have C2:=Hd C2
 by_cases h2:2≤s.size
 ·have h2n:¬ (s.size:Int)<2:=by omega
  have h2':(2:Int)≤s.size:=by omega
  have h1'':(1:Int)≤s.size:=by omega
  have h0':(0:Int)<s.size:=by omega
  have h1':(1:Int)<s.size:=by omega
  have y0:=yH s 0 (by omega)
  have y1:=yH s 1 (by omega)
  rw [decide_eq_true h2] at HV
  generalize bt s 0=c at *
  generalize bt s 1=d at *
  by_cases hc:c=x∨c=y
  ·have HF:=Hd (show powR x y (zA s)=if d=43∨d=45 then r2 else r1 by
    rw [HV.out,show (c == x || c == y)=true by simpa using hc];simp)
   have hcs:((c:Int) != (x:Int))=false∨(((c:Int) != (x:Int))=true∧((c:Int) != (y:Int))=false):=by
    by_cases g:c=x
    ·left;simp;omega
    ·right
     refine ⟨by simp;omega,by simp;omega⟩
   clear hc
   by_cases hd:d=43
   ·subst hd
    have HF2:=Hd (show powR x y (zA s)=r2 by rw [HF.out,if_pos (Or.inl rfl)])
    rcases hcs with hcs | ⟨hcs,hcs2⟩
    all_goals
     go_enter Tryz.func149,Tryz.ntmps149
     go_wp2_with fail
     refine C2.out.mono ?_
     rintro e w' ⟨rfl,rfl⟩
     go_wp2_with fail
     exact HQ.out _ HF2.out
   ·have hdb:((d:Int) == 43)=false:=by rw [beq_eq_false_iff_ne];omega
    by_cases hd2:d=45
    ·subst hd2
     have HF2:=Hd (show powR x y (zA s)=r2 by rw [HF.out,if_pos (Or.inr rfl)])
     rcases hcs with hcs | ⟨hcs,hcs2⟩
     all_goals
      go_enter Tryz.func149,Tryz.ntmps149
      go_wp2_with fail
      refine C2.out.mono ?_
      rintro e w' ⟨rfl,rfl⟩
      go_wp2_with fail
      exact HQ.out _ HF2.out
    ·have hdb2:((d:Int) == 45)=false:=by rw [beq_eq_false_iff_ne];omega
     have HF2:=Hd (show powR x y (zA s)=r1 by rw [HF.out,if_neg (by omega)])
     clear hd hd2
     rcases hcs with hcs | ⟨hcs,hcs2⟩
     all_goals
      go_enter Tryz.func149,Tryz.ntmps149
      go_wp2_with fail
      refine C1.out.mono ?_
      rintro e w' ⟨rfl,rfl⟩
      go_wp2_with fail
      exact HQ.out _ HF2.out
  ·have hx:((c:Int) != (x:Int))=true:=by simp;omega
   have hy:((c:Int) != (y:Int))=true:=by simp;omega
   have HF:=Hd (show powR x y (zA s)=false by
    rw [HV.out,show (c == x || c == y)=false by simpa using hc];simp)
   clear hc
   go_enter Tryz.func149,Tryz.ntmps149
   go_wp2_with fail
   exact HQ.out _ HF.out
 ·have h2':(s.size:Int)<2:=by omega
  have HF:=Hd (show powR x y (zA s)=false by rw [HV.out,decide_eq_false h2];rfl)
  go_enter Tryz.func149,Tryz.ntmps149
  go_wp2_with fail
  exact HQ.out _ HF.out
end Go.Proofs.YtfalelkfhandfaaGreatDoor
namespace Go.Proofs.YtfalelkfhandfaaGreatDoor
set_option maxRecDepth 100000
set_option maxHeartbeats 32000000
set_option linter.all false
open Go.RowKit

theorem zOi (s:ByteArray) (n:Nat) (h:n<s.size):(zA s).drop n=bt s n::(zA s).drop (n+1):=by
 have hl:n<(zA s).length:=by rw [zH];exact h
 rw [List.drop_eq_getElem_cons hl]
 have:=kG s n h
 rw [List.getElem?_eq_getElem hl] at this
 simp only [Option.some.injEq] at this
 rw [this]
theorem zXc (s:ByteArray) (n:Nat) (h:n<s.size):(zA s).take n++[bt s n]=(zA s).take (n+1):=by
 have:=kG s n h
 rw [List.take_succ,this];rfl
theorem zQq (b:Nat) (hex:Bool) (s:ByteArray) (k:Nat) (h:k<s.size) (hc:bt s k≠46):zO b hex ((zA s).take k) ((zA s).drop k)=zO b hex ((zA s).take (k+1)) ((zA s).drop (k+1)):=by
 rw [zOi s k h,zO,if_neg hc,zXc s k h]
theorem zQr (b:Nat) (hex:Bool) (s:ByteArray) (k:Nat) (h:k<s.size) (hc:bt s k=46):zO b hex ((zA s).take k) ((zA s).drop k) =
  (((rowOK b (zA (s.extract 0 k)) || (hex&&yI b (zA (s.extract 0 k))))&&(decide (k+1=s.size) || rowOK b (zA (s.extract (k+1) s.size)))) || (decide (k=0)&&rowOK b (zA (s.extract (k+1) s.size)))):=by
 have e1:((zA s).drop (k+1)).isEmpty=decide (k+1=s.size):=by
  rw [Bool.eq_iff_iff,List.isEmpty_iff_length_eq_zero,List.length_drop,zH,decide_eq_true_eq];omega
 have e2:((zA s).take k).isEmpty=decide (k=0):=by
  rw [Bool.eq_iff_iff,List.isEmpty_iff_length_eq_zero,List.length_take,zH,decide_eq_true_eq];omega
 rw [zOi s k h,zO,if_pos hc,e1,e2,jJ,zBp]
theorem zHz (s:ByteArray) (h:s.size=0):s.toList.isEmpty=true∧(s.toList == [])=true:=by
 have:s.toList=[]:=List.eq_nil_of_length_eq_zero (by rw [ByteArray.toList_eq,← xB];exact h)
 rw [this];exact ⟨rfl,rfl⟩
theorem zKf (s:ByteArray) (h:s.size≠0):s.toList.isEmpty=false∧(s.toList == [])=false:=by
 have:s.toList≠[]:=fun e=>h (by rw [xB,← ByteArray.toList_eq,e];rfl)
 exact ⟨by simpa using this,by rw [beq_eq_false_iff_ne];exact this⟩
theorem zFi (s:ByteArray) (b:Nat) (hb:b≤16) (hex:Bool) (hs:s.size≤2147483647) (w:World) :
  Calls Tryz.prog 150 #[.string s,.int .i64 (b:Int),.bool hex] w fun e w'=>e=.returned (.bool (zO b hex [] (zA s)))∧w=w':=by
 have HQ:Hid (∀ r,zO b hex [] (zA s)=r→(fun (e:Ending) w'=>e=.returned (.bool (zO b hex [] (zA s)))∧w=w') (.returned (.bool r)) w):=Hd fun r h=>⟨by rw [h],rfl⟩
 have CR:=Hd (fun p (hp:p.size≤2147483647)=>fL p b hb hp w)
 have CU:=Hd (fun p (hp:p.size≤2147483647)=>gS p b hb hp w)
 have H0:Hid (zO b hex ((zA s).take 0) ((zA s).drop 0)=zO b hex [] (zA s)):=Hd rfl
 generalize (fun (e:Ending) w'=>e=.returned (.bool (zO b hex [] (zA s)))∧w=w')=Q at *
 generalize zO b hex [] (zA s)=V at *
 go_enter Tryz.func150,Tryz.ntmps150
 go_wp2_with fail
 go_loopw [7] (fun i wr=>∃ k:Nat,i=.int .i64 k∧k≤s.size∧Hid (zO b hex ((zA s).take k) ((zA s).drop k)=V)∧wr=w) (fun i _=>s.size-(intOf i).toNat)
 case atStart=>exact ⟨0,rfl,Nat.zero_le _,H0,rfl⟩
 case round =>
  obtain ⟨k,rfl,hk,HP,rfl⟩:=hrel
  by_cases hlt:k<s.size
  ·have hlt':(k:Int)<s.size:=by omega
   have hle':(k:Int)≤s.size:=by omega
   have hle1:(k:Int)+1≤s.size:=by omega
   have hk0:(0:Int)≤k:=by omega
   have yk:=yH s k hlt
   have hwk:IntKind.i64.wrap ((k:Int)+1)=((k+1:Nat):Int):=wI (by omega)
   by_cases hc:bt s k=46
   ·have HV:=Hd ((zQr b hex s k hlt hc).symm.trans HP.out)
    rw [hc] at yk
    have Ca:=CR.out (s.extract 0 k) (by rw [ByteArray.size_extract];omega)
    have Cu:=CU.out (s.extract 0 k) (by rw [ByteArray.size_extract];omega)
    have Cb:=CR.out (s.extract (k+1) s.size) (by rw [ByteArray.size_extract];omega)
    have hne:k≠0→((s.extract 0 k).toList.isEmpty=false∧((s.extract 0 k).toList == [])=false):=fun g=>zKf _ (by rw [ByteArray.size_extract];omega)
    have hem:k=0→((s.extract 0 k).toList.isEmpty=true∧((s.extract 0 k).toList == [])=true):=fun g=>zHz _ (by rw [ByteArray.size_extract];omega)
    have hrn:k+1≠s.size→((s.extract (k+1) s.size).toList.isEmpty=false∧((s.extract (k+1) s.size).toList == [])=false):=fun g=>zKf _ (by rw [ByteArray.size_extract];omega)
    have hre:k+1=s.size→((s.extract (k+1) s.size).toList.isEmpty=true∧((s.extract (k+1) s.size).toList == [])=true):=fun g=>zHz _ (by rw [ByteArray.size_extract];omega)
    have HA:Hid (rowOK b (zA (s.extract 0 k))=true∨yI b (zA (s.extract 0 k))=true→k≠0):=Hd fun h g=>by
     subst g
     rw [zBp,List.take_zero] at h
     rcases h with h | h <;> cases h
    generalize rowOK b (zA (s.extract 0 k))=ra at *
    generalize yI b (zA (s.extract 0 k))=ua at *
    generalize rowOK b (zA (s.extract (k+1) s.size))=rr at *
    have Ca:=Hd Ca
    have Cu:=Hd Cu
    have Cb:=Hd Cb
    have HNE:=Hd hne
    have HEM:=Hd hem
    have HRN:=Hd hrn
    have HRE:=Hd hre
    clear hc HP hne hem hrn hre
    cases ra with
    | true =>
     obtain ⟨z1,z2⟩:=HNE.out (HA.out (Or.inl rfl))
     by_cases hr:k+1=s.size
     ·obtain ⟨z3,z4⟩:=HRE.out hr
      have HF:=Hd (show V=true by rw [← HV.out,decide_eq_true hr];simp)
      clear HV hr
      go_wp2_with fail
      refine Ca.out.mono ?_
      rintro e w' ⟨rfl,rfl⟩
      go_wp2_with fail
      exact HQ.out _ HF.out
     ·obtain ⟨z3,z4⟩:=HRN.out hr
      have HF:=Hd (show V=rr by rw [← HV.out,decide_eq_false hr,decide_eq_false (HA.out (Or.inl rfl))];simp)
      clear HV hr
      cases rr
      all_goals
       go_wp2_with fail
       refine Ca.out.mono ?_
       rintro e w' ⟨rfl,rfl⟩
       go_wp2_with fail
       refine Cb.out.mono ?_
       rintro e w' ⟨rfl,rfl⟩
       go_wp2_with fail
       exact HQ.out _ HF.out
    | false =>
     cases hex with
     | true =>
      cases ua with
      | true =>
       obtain ⟨z1,z2⟩:=HNE.out (HA.out (Or.inr rfl))
       by_cases hr:k+1=s.size
       ·obtain ⟨z3,z4⟩:=HRE.out hr
        have HF:=Hd (show V=true by rw [← HV.out,decide_eq_true hr];simp)
        clear HV hr
        go_wp2_with fail
        refine Ca.out.mono ?_
        rintro e w' ⟨rfl,rfl⟩
        go_wp2_with fail
        refine Cu.out.mono ?_
        rintro e w' ⟨rfl,rfl⟩
        go_wp2_with fail
        exact HQ.out _ HF.out
       ·obtain ⟨z3,z4⟩:=HRN.out hr
        have HF:=Hd (show V=rr by rw [← HV.out,decide_eq_false hr,decide_eq_false (HA.out (Or.inr rfl))];simp)
        clear HV hr
        cases rr
        all_goals
         go_wp2_with fail
         refine Ca.out.mono ?_
         rintro e w' ⟨rfl,rfl⟩
         go_wp2_with fail
         refine Cu.out.mono ?_
         rintro e w' ⟨rfl,rfl⟩
         go_wp2_with fail
         refine Cb.out.mono ?_
         rintro e w' ⟨rfl,rfl⟩
         go_wp2_with fail
         exact HQ.out _ HF.out
      | false =>
       by_cases hz:k=0
       ·obtain ⟨z1,z2⟩:=HEM.out hz
        have HF:=Hd (show V=rr by rw [← HV.out,decide_eq_true hz];simp)
        clear HV hz
        cases rr
        all_goals
         go_wp2_with fail
         refine Ca.out.mono ?_
         rintro e w' ⟨rfl,rfl⟩
         go_wp2_with fail
         refine Cu.out.mono ?_
         rintro e w' ⟨rfl,rfl⟩
         go_wp2_with fail
         refine Cb.out.mono ?_
         rintro e w' ⟨rfl,rfl⟩
         go_wp2_with fail
         exact HQ.out _ HF.out
       ·obtain ⟨z1,z2⟩:=HNE.out hz
        have HF:=Hd (show V=false by rw [← HV.out,decide_eq_false hz];simp)
        clear HV hz
        go_wp2_with fail
        refine Ca.out.mono ?_
        rintro e w' ⟨rfl,rfl⟩
        go_wp2_with fail
        refine Cu.out.mono ?_
        rintro e w' ⟨rfl,rfl⟩
        go_wp2_with fail
        exact HQ.out _ HF.out
     | false =>
      by_cases hz:k=0
      ·obtain ⟨z1,z2⟩:=HEM.out hz
       have HF:=Hd (show V=rr by rw [← HV.out,decide_eq_true hz];simp)
       clear HV hz
       cases rr
       all_goals
        go_wp2_with fail
        refine Ca.out.mono ?_
        rintro e w' ⟨rfl,rfl⟩
        go_wp2_with fail
        refine Cb.out.mono ?_
        rintro e w' ⟨rfl,rfl⟩
        go_wp2_with fail
        exact HQ.out _ HF.out
      ·obtain ⟨z1,z2⟩:=HNE.out hz
       have HF:=Hd (show V=false by rw [← HV.out,decide_eq_false hz];simp)
       clear HV hz
       go_wp2_with fail
       refine Ca.out.mono ?_
       rintro e w' ⟨rfl,rfl⟩
       go_wp2_with fail
       exact HQ.out _ HF.out
   ·have hcb:((bt s k:Int) != 46)=true:=by simp;omega
    have HN:=Hd ((zQq b hex s k hlt hc).symm.trans HP.out)
    clear hc HP
    generalize bt s k=c at *
    go_wp2_with fail
    refine ⟨⟨k+1,congrArg (Value.int .i64) (by omega),hlt,HN,(by first | trivial | rfl)⟩,?_⟩
    simp only [intOf]
    omega
  ·have hlt':¬ (k:Int)<s.size:=by omega
   have HF:Hid (V=false):=Hd (by
    rw [← HP.out,List.drop_of_length_le (by rw [zH];omega)]
    unfold zO;rfl)
   go_wp2_with fail
   exact HQ.out _ HF.out
end Go.Proofs.YtfalelkfhandfaaGreatDoor
namespace Go.Proofs.YtfalelkfhandfaaGreatDoor
set_option maxRecDepth 100000
set_option maxHeartbeats 32000000
set_option linter.all false
open Go.RowKit

theorem zOj (s:ByteArray):zA s=s.toList.map fun b=>b.toNat:=by unfold zA;rw [ByteArray.toList_eq]
theorem zTx (s:ByteArray):(zA s == [48])=(s.toList == [48]):=by
 rw [Bool.eq_iff_iff,beq_iff_eq,beq_iff_eq,zOj]
 constructor
 ·intro h
  cases hl:s.toList with
  | nil=>rw [hl] at h;cases h
  | cons x r =>
   rw [hl] at h
   cases r with
   | nil =>
    simp only [List.map_cons,List.map_nil,List.cons.injEq,and_true] at h
    rw [show x=48 from UInt8.toNat_inj.1 (by rw [h];rfl)]
   | cons y r=>simp at h
 ·intro h;rw [h];rfl
theorem zQs {s:ByteArray} (h:zT 98 66 (zA s)=true):zT 111 79 (zA s)=false∧zT 120 88 (zA s)=false:=by
 rw [kZ] at h ⊢
 rw [kZ]
 simp only [Bool.and_eq_true,Bool.or_eq_true,beq_iff_eq,decide_eq_true_eq] at h
 obtain ⟨_,_,h | h⟩:=h <;> rw [h] <;> simp
theorem zQt {s:ByteArray} (h:zT 111 79 (zA s)=true):zT 120 88 (zA s)=false:=by
 rw [kZ] at h ⊢
 simp only [Bool.and_eq_true,Bool.or_eq_true,beq_iff_eq,decide_eq_true_eq] at h
 obtain ⟨_,_,h | h⟩:=h <;> rw [h] <;> simp
theorem fM {x y:Nat} {s:ByteArray} (h:zT x y (zA s)=true):2≤s.size:=by
 rw [kZ] at h
 simp only [Bool.and_eq_true,decide_eq_true_eq] at h
 exact h.1
theorem zEn {x y:Nat} {s:ByteArray} (h:zT x y (zA s)=true):bt s 0=48:=by
 rw [kZ] at h
 simp only [Bool.and_eq_true,decide_eq_true_eq,beq_iff_eq] at h
 exact h.2.1
theorem zXd (s:ByteArray):intR (zA s)=((s.toList == [48]) || (rowOK 10 (zA s)&&!(bt s 0 == 48)) || (decide (1<s.size)&&((bt s 0 == 48)&&yI 8 (zA (s.extract 1 s.size)))) ||
  (zT 98 66 (zA s)&&yI 2 (zA (s.extract 2 s.size))) || (zT 111 79 (zA s)&&yI 8 (zA (s.extract 2 s.size))) || (zT 120 88 (zA s)&&yI 16 (zA (s.extract 2 s.size)))):=by
 unfold intR
 rw [zH,jJ,jJ,zTx]
 by_cases h:0<s.size
 ·rw [zMc s h];rfl
 ·have:zA s=[]:=List.eq_nil_of_length_eq_zero (by rw [zH];omega)
  rw [this,decide_eq_false (by omega:¬ 1<s.size)];simp [rowOK]
attribute [local irreducible] Calls
theorem zRz (s:ByteArray) (hs:s.size≤2147483647) (w:World) :
  Calls Tryz.prog 128 #[.string s] w fun e w'=>e=.returned (.bool (intR (zA s)))∧w=w':=by
 have HQ:Hid (∀ r,intR (zA s)=r→(fun (e:Ending) w'=>e=.returned (.bool (intR (zA s)))∧w=w') (.returned (.bool r)) w):=Hd fun r h=>⟨by rw [h],rfl⟩
 have HV:=Hd (zXd s)
 have CR:=Hd (fL s 10 (by omega) hs w)
 have C1:=Hd (gS (s.extract 1 s.size) 8 (by omega) (by rw [ByteArray.size_extract];omega) w)
 have C2:=Hd (gS (s.extract 2 s.size) 2 (by omega) (by rw [ByteArray.size_extract];omega) w)
 have C8:=Hd (gS (s.extract 2 s.size) 8 (by omega) (by rw [ByteArray.size_extract];omega) w)
 have C16:=Hd (gS (s.extract 2 s.size) 16 (by omega) (by rw [ByteArray.size_extract];omega) w)
 have D1:=Hd (zAv s 98 66 hs w)
 have D2:=Hd (zAv s 111 79 hs w)
 have D3:=Hd (zAv s 120 88 hs w)
 have X1:=@zQs s
 have X2:=@zQt s
 have S1:=@fM 98 66 s
 have S2:=@fM 111 79 s
 have S3:=@fM 120 88 s
 have Z1:=@zEn 98 66 s
 have Z2:=@zEn 111 79 s
 have Z3:=@zEn 120 88 s
 have SR:rowOK 10 (zA s)=true→0<s.size:=fun h=>((zHy (by omega) s).1 h).1
 have SZ:(s.toList == [48])=true→s.size=1:=fun h=>by
  have:=beq_iff_eq.1 h
  have h2:=congrArg List.length this
  rw [ByteArray.toList_eq,← xB] at h2
  exact h2
 generalize (fun (e:Ending) w'=>e=.returned (.bool (intR (zA s)))∧w=w')=Q at *
 generalize intR (zA s)=V at *
 generalize he0:(s.toList == [48])=e0 at *
 generalize rowOK 10 (zA s)=rr at *
 generalize yI 8 (zA (s.extract 1 s.size))=u1 at *
 generalize yI 2 (zA (s.extract 2 s.size))=u2 at *
 generalize yI 8 (zA (s.extract 2 s.size))=u8' at *
 generalize yI 16 (zA (s.extract 2 s.size))=u16 at *
 generalize zT 98 66 (zA s)=h1 at *
 generalize zT 111 79 (zA s)=h2 at *
 generalize zT 120 88 (zA s)=h3 at *
 cases e0 with
 | true =>
  have HF:=Hd (show V=true by rw [HV.out];rfl)
  clear X1 X2 S1 S2 S3 Z1 Z2 Z3 SR SZ
  go_enter Tryz.func128,Tryz.ntmps128
  go_wp2_with fail
  exact HQ.out _ HF.out
 | false =>
  by_cases hA:rr=true∧bt s 0≠48
  ·obtain ⟨rfl,hc⟩:=hA
   have h0:=SR rfl
   have h0':(0:Int)<s.size:=by omega
   have y0:=yH s 0 h0
   have HF:=Hd (show V=true by rw [HV.out,show (bt s 0 == 48)=false by simpa using hc];rfl)
   have hcb:((bt s 0:Int) != 48)=true:=by simp;omega
   clear X1 X2 S1 S2 S3 Z1 Z2 Z3 SR SZ hc HV
   generalize bt s 0=c at *
   go_enter Tryz.func128,Tryz.ntmps128
   go_wp2_with fail
   refine CR.out.mono ?_
   rintro e w' ⟨rfl,rfl⟩
   go_wp2_with fail
   exact HQ.out _ HF.out
  ·have HV2:V=((decide (1<s.size)&&((bt s 0 == 48)&&u1)) || (h1&&u2) || (h2&&u8') || (h3&&u16)):=by
    rw [HV.out]
    cases rr with
    | false=>simp
    | true =>
     have:bt s 0=48:=Classical.byContradiction fun q=>hA ⟨rfl,q⟩
     rw [this];simp
   have HA:=Hd hA
   clear HV hA SZ
   by_cases hB:1<s.size∧bt s 0=48
   ·obtain ⟨hl,hc⟩:=hB
    have h0':(0:Int)<s.size:=by omega
    have h1':(1:Int)<s.size:=by omega
    have h1'':(1:Int)≤s.size:=by omega
    have y0:=yH s 0 (by omega)
    rw [hc] at y0
    rw [decide_eq_true hl,hc] at HV2
    clear hc HA Z1 Z2 Z3 SR
    cases u1 with
    | true =>
     have HF:=Hd (show V=true by rw [HV2];rfl)
     clear X1 X2 S1 S2 S3 HV2
     cases rr
     all_goals
      go_enter Tryz.func128,Tryz.ntmps128
      go_wp2_with fail
      refine CR.out.mono ?_
      rintro e w' ⟨rfl,rfl⟩
      go_wp2_with fail
      refine C1.out.mono ?_
      rintro e w' ⟨rfl,rfl⟩
      go_wp2_with fail
      exact HQ.out _ HF.out
    | false =>
     cases h1 with
     | true =>
      obtain ⟨rfl,rfl⟩:=X1 rfl
      have HF:=Hd (show V=u2 by rw [HV2];simp)
      have h2':(2:Int)≤s.size:=by have:=S1 rfl;omega
      clear X1 X2 S1 S2 S3 HV2
      cases rr
      all_goals
       go_enter Tryz.func128,Tryz.ntmps128
       go_wp2_with fail
       refine CR.out.mono ?_
       rintro e w' ⟨rfl,rfl⟩
       go_wp2_with fail
       refine C1.out.mono ?_
       rintro e w' ⟨rfl,rfl⟩
       go_wp2_with fail
       refine D1.out.mono ?_
       rintro e w' ⟨rfl,rfl⟩
       go_wp2_with fail
       refine C2.out.mono ?_
       rintro e w' ⟨rfl,rfl⟩
       go_wp2_with fail
       exact HQ.out _ HF.out
     | false =>
      cases h2 with
      | true =>
       obtain rfl:=X2 rfl
       have HF:=Hd (show V=u8' by rw [HV2];simp)
       have h2':(2:Int)≤s.size:=by have:=S2 rfl;omega
       clear X1 X2 S1 S2 S3 HV2
       cases rr
       all_goals
        go_enter Tryz.func128,Tryz.ntmps128
        go_wp2_with fail
        refine CR.out.mono ?_
        rintro e w' ⟨rfl,rfl⟩
        go_wp2_with fail
        refine C1.out.mono ?_
        rintro e w' ⟨rfl,rfl⟩
        go_wp2_with fail
        refine D1.out.mono ?_
        rintro e w' ⟨rfl,rfl⟩
        go_wp2_with fail
        refine D2.out.mono ?_
        rintro e w' ⟨rfl,rfl⟩
        go_wp2_with fail
        refine C8.out.mono ?_
        rintro e w' ⟨rfl,rfl⟩
        go_wp2_with fail
        exact HQ.out _ HF.out
      | false =>
       cases h3 with
       | true =>
        have HF:=Hd (show V=u16 by rw [HV2];simp)
        have h2':(2:Int)≤s.size:=by have:=S3 rfl;omega
        clear X1 X2 S1 S2 S3 HV2
        cases rr
        all_goals
         go_enter Tryz.func128,Tryz.ntmps128
         go_wp2_with fail
         refine CR.out.mono ?_
         rintro e w' ⟨rfl,rfl⟩
         go_wp2_with fail
         refine C1.out.mono ?_
         rintro e w' ⟨rfl,rfl⟩
         go_wp2_with fail
         refine D1.out.mono ?_
         rintro e w' ⟨rfl,rfl⟩
         go_wp2_with fail
         refine D2.out.mono ?_
         rintro e w' ⟨rfl,rfl⟩
         go_wp2_with fail
         refine D3.out.mono ?_
         rintro e w' ⟨rfl,rfl⟩
         go_wp2_with fail
         refine C16.out.mono ?_
         rintro e w' ⟨rfl,rfl⟩
         go_wp2_with fail
         exact HQ.out _ HF.out
       | false =>
        have HF:=Hd (show V=false by rw [HV2];simp)
        clear X1 X2 S1 S2 S3 HV2
        cases rr
        all_goals
         go_enter Tryz.func128,Tryz.ntmps128
         go_wp2_with fail
         refine CR.out.mono ?_
         rintro e w' ⟨rfl,rfl⟩
         go_wp2_with fail
         refine C1.out.mono ?_
         rintro e w' ⟨rfl,rfl⟩
         go_wp2_with fail
         refine D1.out.mono ?_
         rintro e w' ⟨rfl,rfl⟩
         go_wp2_with fail
         refine D2.out.mono ?_
         rintro e w' ⟨rfl,rfl⟩
         go_wp2_with fail
         refine D3.out.mono ?_
         rintro e w' ⟨rfl,rfl⟩
         go_wp2_with fail
         exact HQ.out _ HF.out
   ·have n1:h1=false:=by cases h1 with
     | false=>rfl
     | true=>exact absurd ⟨S1 rfl,Z1 rfl⟩ hB
    have n2:h2=false:=by cases h2 with
     | false=>rfl
     | true=>exact absurd ⟨S2 rfl,Z2 rfl⟩ hB
    have n3:h3=false:=by cases h3 with
     | false=>rfl
     | true=>exact absurd ⟨S3 rfl,Z3 rfl⟩ hB
    subst n1;subst n2;subst n3
    have hd:(decide (1<s.size)&&((bt s 0 == 48)&&u1))=false:=by
     by_cases g:1<s.size
     ·have:bt s 0≠48:=fun q=>hB ⟨g,q⟩
      rw [show (bt s 0 == 48)=false by simpa using this];simp
     ·rw [decide_eq_false g];rfl
    have HF:=Hd (show V=false by rw [HV2,hd];rfl)
    clear X1 X2 S1 S2 S3 HV2 Z1 Z2 Z3 hd
    by_cases hl:1<s.size
    ·have h0':(0:Int)<s.size:=by omega
     have h1':(1:Int)<s.size:=by omega
     have y0:=yH s 0 (by omega)
     have hc:bt s 0≠48:=fun q=>hB ⟨hl,q⟩
     have hcb:((bt s 0:Int) == 48)=false:=by rw [beq_eq_false_iff_ne];omega
     have hr:rr=false:=by
      cases rr with
      | false=>rfl
      | true=>exact absurd ⟨rfl,hc⟩ HA.out
     subst hr
     clear hc hB HA SR
     generalize bt s 0=c at *
     go_enter Tryz.func128,Tryz.ntmps128
     go_wp2_with fail
     refine CR.out.mono ?_
     rintro e w' ⟨rfl,rfl⟩
     go_wp2_with fail
     refine D1.out.mono ?_
     rintro e w' ⟨rfl,rfl⟩
     go_wp2_with fail
     refine D2.out.mono ?_
     rintro e w' ⟨rfl,rfl⟩
     go_wp2_with fail
     refine D3.out.mono ?_
     rintro e w' ⟨rfl,rfl⟩
     go_wp2_with fail
     exact HQ.out _ HF.out
    ·have h1':¬ (1:Int)<s.size:=by omega
     clear hB
     cases rr with
     | false =>
      clear HA SR
      go_enter Tryz.func128,Tryz.ntmps128
      go_wp2_with fail
      refine CR.out.mono ?_
      rintro e w' ⟨rfl,rfl⟩
      go_wp2_with fail
      refine D1.out.mono ?_
      rintro e w' ⟨rfl,rfl⟩
      go_wp2_with fail
      refine D2.out.mono ?_
      rintro e w' ⟨rfl,rfl⟩
      go_wp2_with fail
      refine D3.out.mono ?_
      rintro e w' ⟨rfl,rfl⟩
      go_wp2_with fail
      exact HQ.out _ HF.out
     | true =>
      have h0:=SR rfl
      have h0':(0:Int)<s.size:=by omega
      have y0:=yH s 0 h0
      have hc:bt s 0=48:=Classical.byContradiction fun q=>HA.out ⟨rfl,q⟩
      rw [hc] at y0
      clear hc HA SR
      go_enter Tryz.func128,Tryz.ntmps128
      go_wp2_with fail
      refine CR.out.mono ?_
      rintro e w' ⟨rfl,rfl⟩
      go_wp2_with fail
      refine D1.out.mono ?_
      rintro e w' ⟨rfl,rfl⟩
      go_wp2_with fail
      refine D2.out.mono ?_
      rintro e w' ⟨rfl,rfl⟩
      go_wp2_with fail
      refine D3.out.mono ?_
      rintro e w' ⟨rfl,rfl⟩
      go_wp2_with fail
      exact HQ.out _ HF.out
end Go.Proofs.YtfalelkfhandfaaGreatDoor
namespace Go.Proofs.YtfalelkfhandfaaGreatDoor
set_option maxRecDepth 100000
set_option maxHeartbeats 32000000
set_option linter.all false
open Go.RowKit

def fl16 (t:ByteArray) (i:Nat):Bool:=powR 112 80 (zA (t.extract i t.size))&&(zO 16 true [] (zA (t.extract 0 i)) || yI 16 (zA (t.extract 0 i)))
def fl10 (s:ByteArray) (i:Nat):Bool:=powR 101 69 (zA (s.extract i s.size))&&(zO 10 false [] (zA (s.extract 0 i)) || rowOK 10 (zA (s.extract 0 i)))
theorem zQu (s:ByteArray):xW (zA s)=if zT 120 88 (zA s) then (List.range ((s.extract 2 s.size).size+1)).any (fl16 (s.extract 2 s.size)) else (zO 10 false [] (zA s) || (List.range (s.size+1)).any (fl10 s)):=by
 unfold xW
 rw [zH]
 have hz:(s.extract 2 s.size).size=s.size-2:=by rw [ByteArray.size_extract];omega
 have e1:(fun i=>powR 112 80 (((zA s).drop 2).drop i)&&(zO 16 true [] (((zA s).drop 2).take i) || yI 16 (((zA s).drop 2).take i)))=fl16 (s.extract 2 s.size):=by
  funext i
  unfold fl16
  rw [jJ,zBp,jJ]
 have e2:(fun i=>powR 101 69 ((zA s).drop i)&&(zO 10 false [] ((zA s).take i) || rowOK 10 ((zA s).take i)))=fl10 s:=by
  funext i
  unfold fl10
  rw [jJ,zBp]
 rw [hz,← e1,← e2]
theorem zSa {n:Nat} {p:Nat→Bool} {i:Nat} (hi:i≤n) (h:p i=true):(List.range (n+1)).any p=true:=(fZ n p).2 ⟨i,hi,h⟩
theorem zXe {n:Nat} {p:Nat→Bool} (h:∀ i,i≤n→p i=false):(List.range (n+1)).any p=false:=by
 cases g:(List.range (n+1)).any p with
 | false=>rfl
 | true =>
  obtain ⟨i,hi,hp⟩:=(fZ n p).1 g
  rw [h i hi] at hp;cases hp
attribute [local irreducible] Calls
theorem zKg (s:ByteArray) (hs:s.size≤2147483647) (w:World) :
  Calls Tryz.prog 129 #[.string s] w fun e w'=>e=.returned (.bool (xW (zA s)))∧w=w':=by
 have HQ:Hid (∀ r,xW (zA s)=r→(fun (e:Ending) w'=>e=.returned (.bool (xW (zA s)))∧w=w') (.returned (.bool r)) w):=Hd fun r h=>⟨by rw [h],rfl⟩
 have HV:=Hd (zQu s)
 have CD:=Hd (zAv s 120 88 hs w)
 have C0:=Hd (zFi s 10 (by omega) false hs w)
 have CP:=Hd (fun p x y (hp:p.size≤2147483647)=>zTw p x y hp w)
 have CQ:=Hd (fun p b hb h (hp:p.size≤2147483647)=>zFi p b hb h hp w)
 have CU:=Hd (fun p b hb (hp:p.size≤2147483647)=>gS p b hb hp w)
 have CR:=Hd (fun p b hb (hp:p.size≤2147483647)=>fL p b hb hp w)
 have HS:=Hd (@fM 120 88 s)
 generalize (fun (e:Ending) w'=>e=.returned (.bool (xW (zA s)))∧w=w')=Q at *
 generalize xW (zA s)=V at *
 generalize zT 120 88 (zA s)=h1 at *
 cases h1 with
 | true =>
  have h2':(2:Int)≤s.size:=by have:=HS.out rfl;omega
  have hz:(s.extract 2 s.size).size≤2147483647:=by rw [ByteArray.size_extract];omega
  go_enter Tryz.func129,Tryz.ntmps129
  go_wp2_with fail
  refine CD.out.mono ?_
  rintro e w' ⟨rfl,rfl⟩
  go_wp2_with fail
  have HV2:Hid (V=(List.range ((s.extract 2 s.size).size+1)).any (fl16 (s.extract 2 s.size))):=Hd (by rw [HV.out];rfl)
  clear HV
  generalize s.extract 2 s.size=t at *
  go_loopw [4] (fun i wr=>∃ k:Nat,i=.int .i64 k∧k≤t.size+1∧Hid (∀ j,j<k→fl16 t j=false)∧wr=w) (fun i _=>t.size+1-(intOf i).toNat)
  case atStart=>exact ⟨0,rfl,Nat.zero_le _,Hd (fun j h=>by omega),rfl⟩
  case round =>
   obtain ⟨k,rfl,hk,HA,rfl⟩:=hrel
   by_cases hlt:k≤t.size
   ·have hlt':(k:Int)≤t.size:=by omega
    have hk0:(0:Int)≤k:=by omega
    have hwk:IntKind.i64.wrap ((k:Int)+1)=((k+1:Nat):Int):=wI (by omega)
    have HK:Hid (k+1≤t.size+1):=Hd (by omega)
    have C1:=CP.out (t.extract k t.size) 112 80 (by rw [ByteArray.size_extract];omega)
    have C2:=CQ.out (t.extract 0 k) 16 (by omega) true (by rw [ByteArray.size_extract];omega)
    have C3:=CU.out (t.extract 0 k) 16 (by omega) (by rw [ByteArray.size_extract];omega)
    have HF:Hid (fl16 t k=(powR 112 80 (zA (t.extract k t.size))&&(zO 16 true [] (zA (t.extract 0 k)) || yI 16 (zA (t.extract 0 k))))):=Hd rfl
    have HY:=Hd (@zSa t.size (fl16 t) k hlt)
    have HN:Hid (fl16 t k=false→∀ j,j<k+1→fl16 t j=false):=Hd fun h j hj=>by
     rcases Nat.lt_or_ge j k with q | q
     ·exact HA.out j q
     ·obtain rfl:j=k:=by omega
      exact h
    generalize powR 112 80 (zA (t.extract k t.size))=p1 at *
    generalize zO 16 true [] (zA (t.extract 0 k))=p2 at *
    generalize yI 16 (zA (t.extract 0 k))=p3 at *
    have C1:=Hd C1
    have C2:=Hd C2
    have C3:=Hd C3
    cases p1 with
    | false =>
     have HN2:=Hd (HN.out (by rw [HF.out];rfl))
     go_wp2_with fail
     refine C1.out.mono ?_
     rintro e w' ⟨rfl,rfl⟩
     go_wp2_with fail
     refine ⟨⟨k+1,congrArg (Value.int .i64) (by omega),HK.out,HN2,(by first | trivial | rfl)⟩,?_⟩
     simp only [intOf]
     omega
    | true =>
     cases p2 with
     | true =>
      have HV3:=Hd (HV2.out.trans (HY.out (by rw [HF.out];rfl)))
      go_wp2_with fail
      refine C1.out.mono ?_
      rintro e w' ⟨rfl,rfl⟩
      go_wp2_with fail
      refine C2.out.mono ?_
      rintro e w' ⟨rfl,rfl⟩
      go_wp2_with fail
      exact HQ.out _ HV3.out
     | false =>
      cases p3 with
      | true =>
       have HV3:=Hd (HV2.out.trans (HY.out (by rw [HF.out];rfl)))
       go_wp2_with fail
       refine C1.out.mono ?_
       rintro e w' ⟨rfl,rfl⟩
       go_wp2_with fail
       refine C2.out.mono ?_
       rintro e w' ⟨rfl,rfl⟩
       go_wp2_with fail
       refine C3.out.mono ?_
       rintro e w' ⟨rfl,rfl⟩
       go_wp2_with fail
       exact HQ.out _ HV3.out
      | false =>
       have HN2:=Hd (HN.out (by rw [HF.out];rfl))
       go_wp2_with fail
       refine C1.out.mono ?_
       rintro e w' ⟨rfl,rfl⟩
       go_wp2_with fail
       refine C2.out.mono ?_
       rintro e w' ⟨rfl,rfl⟩
       go_wp2_with fail
       refine C3.out.mono ?_
       rintro e w' ⟨rfl,rfl⟩
       go_wp2_with fail
       refine ⟨⟨k+1,congrArg (Value.int .i64) (by omega),HK.out,HN2,(by first | trivial | rfl)⟩,?_⟩
       simp only [intOf]
       omega
   ·have hlt':¬ (k:Int)≤t.size:=by omega
    have HV3:=Hd (HV2.out.trans (zXe (fun i hi=>HA.out i (by omega))))
    go_wp2_with fail
    exact HQ.out _ HV3.out
 | false =>
  have HV2:Hid (V=(zO 10 false [] (zA s) || (List.range (s.size+1)).any (fl10 s))):=Hd (by rw [HV.out];rfl)
  clear HV
  generalize zO 10 false [] (zA s)=p0 at *
  cases p0 with
  | true =>
   have HV3:=Hd (show V=true by rw [HV2.out];rfl)
   go_enter Tryz.func129,Tryz.ntmps129
   go_wp2_with fail
   refine CD.out.mono ?_
   rintro e w' ⟨rfl,rfl⟩
   go_wp2_with fail
   refine C0.out.mono ?_
   rintro e w' ⟨rfl,rfl⟩
   go_wp2_with fail
   exact HQ.out _ HV3.out
  | false =>
   go_enter Tryz.func129,Tryz.ntmps129
   go_wp2_with fail
   refine CD.out.mono ?_
   rintro e w' ⟨rfl,rfl⟩
   go_wp2_with fail
   refine C0.out.mono ?_
   rintro e w' ⟨rfl,rfl⟩
   go_wp2_with fail
   go_loopw [5] (fun i wr=>∃ k:Nat,i=.int .i64 k∧k≤s.size+1∧Hid (∀ j,j<k→fl10 s j=false)∧wr=w) (fun i _=>s.size+1-(intOf i).toNat)
   case atStart=>exact ⟨0,rfl,Nat.zero_le _,Hd (fun j h=>by omega),rfl⟩
   case round =>
    obtain ⟨k,rfl,hk,HA,rfl⟩:=hrel
    by_cases hlt:k≤s.size
    ·have hlt':(k:Int)≤s.size:=by omega
     have hk0:(0:Int)≤k:=by omega
     have hwk:IntKind.i64.wrap ((k:Int)+1)=((k+1:Nat):Int):=wI (by omega)
     have HK:Hid (k+1≤s.size+1):=Hd (by omega)
     have C1:=CP.out (s.extract k s.size) 101 69 (by rw [ByteArray.size_extract];omega)
     have C2:=CQ.out (s.extract 0 k) 10 (by omega) false (by rw [ByteArray.size_extract];omega)
     have C3:=CR.out (s.extract 0 k) 10 (by omega) (by rw [ByteArray.size_extract];omega)
     have HF:Hid (fl10 s k=(powR 101 69 (zA (s.extract k s.size))&&(zO 10 false [] (zA (s.extract 0 k)) || rowOK 10 (zA (s.extract 0 k))))):=Hd rfl
     have HY:=Hd (@zSa s.size (fl10 s) k hlt)
     have HN:Hid (fl10 s k=false→∀ j,j<k+1→fl10 s j=false):=Hd fun h j hj=>by
      rcases Nat.lt_or_ge j k with q | q
      ·exact HA.out j q
      ·obtain rfl:j=k:=by omega
       exact h
     generalize powR 101 69 (zA (s.extract k s.size))=p1 at *
     generalize zO 10 false [] (zA (s.extract 0 k))=p2 at *
     generalize rowOK 10 (zA (s.extract 0 k))=p3 at *
     have C1:=Hd C1
     have C2:=Hd C2
     have C3:=Hd C3
     cases p1 with
     | false =>
      have HN2:=Hd (HN.out (by rw [HF.out];rfl))
      go_wp2_with fail
      refine C1.out.mono ?_
      rintro e w' ⟨rfl,rfl⟩
      go_wp2_with fail
      refine ⟨⟨k+1,congrArg (Value.int .i64) (by omega),HK.out,HN2,(by first | trivial | rfl)⟩,?_⟩
      simp only [intOf]
      omega
     | true =>
      cases p2 with
      | true =>
       have HV3:=Hd (show V=true by rw [HV2.out];exact HY.out (by rw [HF.out];rfl))
       go_wp2_with fail
       refine C1.out.mono ?_
       rintro e w' ⟨rfl,rfl⟩
       go_wp2_with fail
       refine C2.out.mono ?_
       rintro e w' ⟨rfl,rfl⟩
       go_wp2_with fail
       exact HQ.out _ HV3.out
      | false =>
       cases p3 with
       | true =>
        have HV3:=Hd (show V=true by rw [HV2.out];exact HY.out (by rw [HF.out];rfl))
        go_wp2_with fail
        refine C1.out.mono ?_
        rintro e w' ⟨rfl,rfl⟩
        go_wp2_with fail
        refine C2.out.mono ?_
        rintro e w' ⟨rfl,rfl⟩
        go_wp2_with fail
        refine C3.out.mono ?_
        rintro e w' ⟨rfl,rfl⟩
        go_wp2_with fail
        exact HQ.out _ HV3.out
       | false =>
        have HN2:=Hd (HN.out (by rw [HF.out];rfl))
        go_wp2_with fail
        refine C1.out.mono ?_
        rintro e w' ⟨rfl,rfl⟩
        go_wp2_with fail
        refine C2.out.mono ?_
        rintro e w' ⟨rfl,rfl⟩
        go_wp2_with fail
        refine C3.out.mono ?_
        rintro e w' ⟨rfl,rfl⟩
        go_wp2_with fail
        refine ⟨⟨k+1,congrArg (Value.int .i64) (by omega),HK.out,HN2,(by first | trivial | rfl)⟩,?_⟩
        simp only [intOf]
        omega
    ·have hlt':¬ (k:Int)≤s.size:=by omega
     have HV3:=Hd (show V=false by rw [HV2.out,zXe (fun i hi=>HA.out i (by omega))];rfl)
     go_wp2_with fail
     exact HQ.out _ HV3.out
theorem zTy (s:ByteArray):kindR (zA s)=if intR (zA s) then 3 else if xW (zA s) then 4 else if 1<s.size∧bt s (s.size-1)=105 then (if intR (zA (s.extract 0 (s.size-1))) || xW (zA (s.extract 0 (s.size-1))) || rowOK 10 (zA (s.extract 0 (s.size-1))) then 5 else 0) else 0:=by
 unfold kindR
 rw [zH,zBp,List.dropLast_eq_take,zH,List.getLast?_eq_getElem?,zH]
 by_cases h:1<s.size
 ·rw [kG s (s.size-1) (by omega)]
  simp only [Option.some.injEq]
 ·simp only [h,false_and,if_false]
theorem zXf (s:ByteArray) (hs:s.size≤2147483647) (w:World) :
  Calls Tryz.prog 113 #[.string s] w fun e w'=>e=.returned (.int .u8 (kindL (zA s):Nat))∧w=w':=by
 rw [zZs]
 have HQ:Hid (∀ r:Nat,kindR (zA s)=r→(fun (e:Ending) w'=>e=.returned (.int .u8 (kindR (zA s):Nat))∧w=w') (.returned (.int .u8 (r:Nat))) w):=Hd fun r h=>⟨by rw [h],rfl⟩
 have HV:=Hd (zTy s)
 have C1:=Hd (zRz s hs w)
 have C2:=Hd (zKg s hs w)
 have D1:=Hd (zRz (s.extract 0 (s.size-1)) (by rw [ByteArray.size_extract];omega) w)
 have D2:=Hd (zKg (s.extract 0 (s.size-1)) (by rw [ByteArray.size_extract];omega) w)
 have D3:=Hd (fL (s.extract 0 (s.size-1)) 10 (by omega) (by rw [ByteArray.size_extract];omega) w)
 generalize (fun (e:Ending) w'=>e=.returned (.int .u8 (kindR (zA s):Nat))∧w=w')=Q at *
 generalize kindR (zA s)=V at *
 generalize intR (zA s)=a1 at *
 generalize xW (zA s)=a2 at *
 generalize intR (zA (s.extract 0 (s.size-1)))=b1 at *
 generalize xW (zA (s.extract 0 (s.size-1)))=b2 at *
 generalize rowOK 10 (zA (s.extract 0 (s.size-1)))=b3 at *
 cases a1 with
 | true =>
  have HF:=Hd (show V=3 by rw [HV.out];rfl)
  go_enter Tryz.func113,Tryz.ntmps113
  go_wp2_with fail
  refine C1.out.mono ?_
  rintro e w' ⟨rfl,rfl⟩
  go_wp2_with fail
  exact HQ.out _ HF.out
 | false =>
  cases a2 with
  | true =>
   have HF:=Hd (show V=4 by rw [HV.out];rfl)
   go_enter Tryz.func113,Tryz.ntmps113
   go_wp2_with fail
   refine C1.out.mono ?_
   rintro e w' ⟨rfl,rfl⟩
   go_wp2_with fail
   refine C2.out.mono ?_
   rintro e w' ⟨rfl,rfl⟩
   go_wp2_with fail
   exact HQ.out _ HF.out
  | false =>
   by_cases hl:1<s.size
   ·have hl':(1:Int)<s.size:=by omega
    have y1:=yH s (s.size-1) (by omega)
    have w1:IntKind.i64.wrap ((s.size:Int)-1)=((s.size-1:Nat):Int):=wI (by omega)
    have w2:(s.size:Int)-1<s.size:=by omega
    have w3:(0:Int)≤(s.size:Int)-1:=by omega
    have w4:((s.size:Int)-1).toNat=s.size-1:=by omega
    have w5:((s.size-1:Nat):Int)<s.size:=by omega
    have w6:(s.size:Int)-1≤s.size:=by omega
    have w7:s.size-1<s.size:=by omega
    by_cases hc:bt s (s.size-1)=105
    ·have HV2:=Hd (show V=if b1 || b2 || b3 then 5 else 0 by rw [HV.out,if_neg (by decide),if_neg (by decide),if_pos ⟨hl,hc⟩])
     rw [hc] at y1
     clear hc HV
     cases b1 with
     | true =>
      have HF:=Hd (show V=5 by rw [HV2.out];rfl)
      go_enter Tryz.func113,Tryz.ntmps113
      go_wp2_with fail
      refine C1.out.mono ?_
      rintro e w' ⟨rfl,rfl⟩
      go_wp2_with fail
      refine C2.out.mono ?_
      rintro e w' ⟨rfl,rfl⟩
      go_wp2_with fail
      refine D1.out.mono ?_
      rintro e w' ⟨rfl,rfl⟩
      go_wp2_with fail
      exact HQ.out _ HF.out
     | false =>
      cases b2 with
      | true =>
       have HF:=Hd (show V=5 by rw [HV2.out];rfl)
       go_enter Tryz.func113,Tryz.ntmps113
       go_wp2_with fail
       refine C1.out.mono ?_
       rintro e w' ⟨rfl,rfl⟩
       go_wp2_with fail
       refine C2.out.mono ?_
       rintro e w' ⟨rfl,rfl⟩
       go_wp2_with fail
       refine D1.out.mono ?_
       rintro e w' ⟨rfl,rfl⟩
       go_wp2_with fail
       refine D2.out.mono ?_
       rintro e w' ⟨rfl,rfl⟩
       go_wp2_with fail
       exact HQ.out _ HF.out
      | false =>
       cases b3 with
       | true =>
        have HF:=Hd (show V=5 by rw [HV2.out];rfl)
        go_enter Tryz.func113,Tryz.ntmps113
        go_wp2_with fail
        refine C1.out.mono ?_
        rintro e w' ⟨rfl,rfl⟩
        go_wp2_with fail
        refine C2.out.mono ?_
        rintro e w' ⟨rfl,rfl⟩
        go_wp2_with fail
        refine D1.out.mono ?_
        rintro e w' ⟨rfl,rfl⟩
        go_wp2_with fail
        refine D2.out.mono ?_
        rintro e w' ⟨rfl,rfl⟩
        go_wp2_with fail
        refine D3.out.mono ?_
        rintro e w' ⟨rfl,rfl⟩
        go_wp2_with fail
        exact HQ.out _ HF.out
       | false =>
        have HF:=Hd (show V=0 by rw [HV2.out];rfl)
        go_enter Tryz.func113,Tryz.ntmps113
        go_wp2_with fail
        refine C1.out.mono ?_
        rintro e w' ⟨rfl,rfl⟩
        go_wp2_with fail
        refine C2.out.mono ?_
        rintro e w' ⟨rfl,rfl⟩
        go_wp2_with fail
        refine D1.out.mono ?_
        rintro e w' ⟨rfl,rfl⟩
        go_wp2_with fail
        refine D2.out.mono ?_
        rintro e w' ⟨rfl,rfl⟩
        go_wp2_with fail
        refine D3.out.mono ?_
        rintro e w' ⟨rfl,rfl⟩
        go_wp2_with fail
        exact HQ.out _ HF.out
    ·have HF:=Hd (show V=0 by rw [HV.out,if_neg (by decide),if_neg (by decide),if_neg (fun g=>hc g.2)])
     have hcb:((bt s (s.size-1):Int) == 105)=false:=by rw [beq_eq_false_iff_ne];omega
     clear hc HV
     generalize bt s (s.size-1)=c at *
     go_enter Tryz.func113,Tryz.ntmps113
     go_wp2_with fail
     refine C1.out.mono ?_
     rintro e w' ⟨rfl,rfl⟩
     go_wp2_with fail
     refine C2.out.mono ?_
     rintro e w' ⟨rfl,rfl⟩
     go_wp2_with fail
     exact HQ.out _ HF.out
   ·have hl':¬ (1:Int)<s.size:=by omega
    have HF:=Hd (show V=0 by rw [HV.out,if_neg (by decide),if_neg (by decide),if_neg (fun g=>hl g.1)])
    clear HV
    go_enter Tryz.func113,Tryz.ntmps113
    go_wp2_with fail
    refine C1.out.mono ?_
    rintro e w' ⟨rfl,rfl⟩
    go_wp2_with fail
    refine C2.out.mono ?_
    rintro e w' ⟨rfl,rfl⟩
    go_wp2_with fail
    exact HQ.out _ HF.out
end Go.Proofs.YtfalelkfhandfaaGreatDoor
