/- Layer 17, the reference: Hole, walked. -/
import Derived.Test.YtfalelkfhandfaaGreatDoorPackMs
import Derived.Test.YtfalelkfhandfaaGreatDoorTreesFMs
import Derived.Test.YtfalelkfhandfaaGreatDoorStillMs
import Derived.Test.YtfalelkfhandfaaGreatDoorRuleVMs
import Derived.Test.YtfalelkfhandfaaGreatDoorStepPMs
import Derived.Test.YtfalelkfhandfaaGreatDoorTermMs
namespace Go.Proofs.YtfalelkfhandfaaGreatDoor
set_option maxRecDepth 100000
set_option maxHeartbeats 32000000
set_option linter.all false
attribute [local irreducible] Calls
attribute [local irreducible] wpStill
open Go.RowKit

def holeI (o:Option Nat):Int:=match o with
 | some h=>(h:Int)
 | none=>-1
def hoRel (f:List Prt) (hs:List Hl) (p:Nat) (w:World) (hv:Value) (wr:World):Prop:=∃ k:Nat,hv=.int .i64 (k:Int)∧k≤hs.length∧(∀ j (hj:j<hs.length),j<k→yD f p hs[j]=false)∧Below w.heap.size w wr
theorem zUe {f:List Prt} {hs:List Hl} {p k:Nat} (hk:k<hs.length) (hn:∀ j (hj:j<hs.length),j<k→yD f p hs[j]=false) (h:yD f p hs[k]=true):holeI (zW f hs p)=(k:Int):=by
 unfold zW
 rw [List.findIdx?_eq_some_iff_getElem.2 ⟨hk,h,fun j hj=>by rw [hn j (by omega) hj];decide⟩]
 rfl
theorem zUf {f:List Prt} {hs:List Hl} {p:Nat} (hn:∀ j (hj:j<hs.length),j<hs.length→yD f p hs[j]=false):holeI (zW f hs p)=-1:=by
 unfold zW
 rw [List.findIdx?_eq_none_iff.2 (fun x hx=>by obtain ⟨j,hj,rfl⟩:=List.mem_iff_getElem.1 hx;exact hn j hj hj)]
 rfl
theorem zId (f:List Prt) (hs:List Hl) (hf:f.length≤1048576) (hh:hs.length≤1048576) (p:Nat) (hp:p<f.length) (vf vh:Value) (w:World) (hrf:zD w vf f) (hrh:HoleRow w vh hs) :
  Calls Tryz.prog 68 #[vf,vh,.int .i64 (p:Int)] w fun e w'=>e=.returned (.int .i64 (holeI (zW f hs p)))∧Below w.heap.size w w':=by
 have HQ:Hid (∀ x w',holeI (zW f hs p)=x→Below w.heap.size w w'→(fun (e:Ending) w'=>e=.returned (.int .i64 (holeI (zW f hs p)))∧Below w.heap.size w w') (.returned (.int .i64 x)) w'):=Hd fun x w' h hb=>⟨by rw [h],hb⟩
 generalize (fun (e:Ending) w'=>e=.returned (.int .i64 (holeI (zW f hs p)))∧Below w.heap.size w w')=Q at *
 obtain ⟨af,cf,rfl,hcf⟩:=hrf.slice
 obtain ⟨ah,ch,rfl,hch⟩:=Row.shape hrh
 have HF:=Hd hrf
 have HH:=Hd hrh
 clear hrf hrh
 go_enter Tryz.func68,Tryz.ntmps68
 go_wp2_with fail
 go_loopw [7] (fun hv wr=>hoRel f hs p w hv wr) (fun hv _=>hs.length-(intOf hv).toNat)
 case atStart=>exact ⟨0,rfl,Nat.zero_le _,fun j hj h=>absurd h (by omega),Below.refl _ _⟩
 case round =>
  obtain ⟨k,rfl,hk,hno,hb⟩:=hrel
  have HB:=Hd hb
  have HNO:=Hd hno
  clear hb hno
  by_cases hlt:k<hs.length
  ·obtain ⟨b,off,rfl,_,_,_,hcm⟩:=HH.out.at HB.out (show 0<hs.length by omega)
   obtain ⟨c0,c1⟩:=hcm k hlt
   have hk0:(0:Int)≤(k:Int):=by omega
   have hkl:(k:Int)<hs.length:=by omega
   have hkc:(k:Int)<ch:=by omega
   have HX:Hid (yD f p hs[k]=false→∀ W,Below w.heap.size w W→hoRel f hs p w (.int .i64 ((k:Int)+1)) W):=Hd fun h W hb=>⟨k+1,by push_cast;rfl,hlt,fun j hj hjk=>by
    by_cases e:j=k
    ·subst e;exact h
    ·exact HNO.out j hj (by omega),hb⟩
   have HY:Hid (yD f p hs[k]=true→holeI (zW f hs p)=(k:Int)):=Hd fun h=>zUe hlt HNO.out h
   clear hcm
   generalize hs[k]=x at *
   obtain ⟨xs,xk⟩:=x
   simp only [] at c0 c1
   obtain ⟨fb,fo,rfl,_,_,_,hcm⟩:=HF.out.at HB.out (show 0<f.length by omega)
   obtain ⟨d0,d1,d2⟩:=hcm p hp
   have hp0:(0:Int)≤(p:Int):=by omega
   have hpl:(p:Int)<f.length:=by omega
   have hpc:(p:Int)<cf:=by omega
   by_cases hst:vE xk=true
   ·have hx:xk=5∨xk=7:=by unfold vE at hst;simp at hst;exact hst
    by_cases h50:(f[p]).1=50
    case neg =>
     have hsa:yD f p (xs,xk)=false:=by
      unfold yD
      rw [if_pos hst,List.getElem?_eq_getElem hp]
      cases f[p+1]? with
      | none=>rfl
      | some y=>simp [h50]
     have HZ:=Hd (HX.out hsa wr.drew.drew HB.out.drew.drew)
     have g50:(((f[p]).1:Int) == 50)=false:=by rw [beq_eq_false_iff_ne];omega
     clear hsa HX HY hcm h50 hst
     rcases hx with rfl | rfl
     all_goals
      go_upto_region 5 with (fail)
      go_still_tail 26,(by kernel_rfl)
      go_wp2_with fail
      go_still_tail 11,(by kernel_rfl)
      go_wp2_with fail
      exact ⟨HZ.out,by simp only [intOf];omega⟩
    by_cases hnx:p+1<f.length
    case neg =>
     have hsa:yD f p (xs,xk)=false:=by
      unfold yD
      rw [if_pos hst,List.getElem?_eq_getElem hp,List.getElem?_eq_none (by omega)]
     have HZ:=Hd (HX.out hsa wr.drew.drew HB.out.drew.drew)
     have g50:(((f[p]).1:Int) == 50)=true:=by rw [beq_iff_eq];omega
     have hw1:IntKind.i64.wrap ((p:Int)+1)=(p:Int)+1:=wI (by omega)
     have g51:¬ (p:Int)+1<f.length:=by omega
     clear hsa HX HY hcm h50 hst
     rcases hx with rfl | rfl
     all_goals
      go_upto_region 5 with (fail)
      go_still_tail 26,(by kernel_rfl)
      go_wp2_with fail
      go_still_tail 11,(by kernel_rfl)
      go_wp2_with fail
      exact ⟨HZ.out,by simp only [intOf];omega⟩
    obtain ⟨n0,n1,n2⟩:=hcm (p+1) hnx
    have hsa:yD f p (xs,xk)=((f[p+1]).1 == 26&&decide ((f[p+1]).2.2=xs)):=by
     unfold yD
     rw [if_pos hst,List.getElem?_eq_getElem hp,List.getElem?_eq_getElem hnx]
     simp [h50]
    rw [hsa] at HX HY
    have g50:(((f[p]).1:Int) == 50)=true:=by rw [beq_iff_eq];omega
    have hw1:IntKind.i64.wrap ((p:Int)+1)=(p:Int)+1:=wI (by omega)
    have g51:(p:Int)+1<f.length:=by omega
    have hq0:(0:Int)≤(p:Int)+1:=by omega
    have hqc:(p:Int)+1<cf:=by omega
    have CP:=Hd (fun W=>zEo f[p+1] xs xk W)
    clear hsa hcm h50 hst
    generalize f[p+1]=q at *
    obtain ⟨q1,q2,q3⟩:=q
    simp only [] at n0 n1 n2 CP HX HY
    rcases hx with rfl | rfl
    all_goals
     go_upto_region 5 with (fail)
     go_still_tail 26,(by kernel_rfl)
     go_wp2_with fail
     refine (CP.out _).mono ?_
     rintro e w3 ⟨rfl,hb3⟩
     have HB3:=Hd (zB HB.out.drew hb3)
     clear hb3 CP c0 c1 d0 d1 d2 n0 n1 n2
     cases hz:(q1 == 26&&decide (q3=xs)) with
     | true =>
      have HZ:=Hd (HQ.out (k:Int) w3 (HY.out hz) HB3.out)
      clear hz HX HY
      go_wp2_with fail
      exact HZ.out
     | false =>
      have HZ:=Hd (HX.out hz w3.drew HB3.out.drew)
      clear hz HX HY
      go_upto_region 7 with (fail)
      go_still_tail 11,(by kernel_rfl)
      go_wp2_with fail
      exact ⟨HZ.out,by simp only [intOf];omega⟩
   have hsa:yD f p (xs,xk)=((f[p]).1 == 26&&decide ((f[p]).2.2=xs)):=by
    unfold yD
    rw [if_neg hst,List.getElem?_eq_getElem hp]
   rw [hsa] at HX HY
   have g5:((xk:Int) == 5)=false:=by rw [beq_eq_false_iff_ne];intro e;apply hst;unfold vE;simp;omega
   have g7:((xk:Int) == 7)=false:=by rw [beq_eq_false_iff_ne];intro e;apply hst;unfold vE;simp;omega
   have CP:=Hd (fun W=>zEo f[p] xs xk W)
   clear hst hsa hcm
   generalize f[p]=q at *
   obtain ⟨q1,q2,q3⟩:=q
   simp only [] at d0 d1 d2 CP HX HY
   go_upto_region 5 with (fail)
   go_still_tail 26,(by kernel_rfl)
   go_wp2_with fail
   have c0':wr.drew.cell? ⟨b,off+k*2,none⟩=some (.string xs):=c0
   have c1':wr.drew.cell? ⟨b,off+k*2+1,none⟩=some (.int .u8 (xk:Int)):=c1
   have d0':wr.drew.cell? ⟨fb,fo+p*3,none⟩=some (.int .u8 (q1:Int)):=d0
   have d1':wr.drew.cell? ⟨fb,fo+p*3+1,none⟩=some (.int .i64 q2):=d1
   have d2':wr.drew.cell? ⟨fb,fo+p*3+2,none⟩=some (.string q3):=d2
   have HBD:=Hd HB.out.drew
   clear c0 c1 d0 d1 d2
   generalize wr.drew=wd at *
   have HBE:=Hd HBD.out.drew
   go_still_tail 11,(by kernel_rfl)
   go_wp2_with fail
   refine (CP.out _).mono ?_
   rintro e w3 ⟨rfl,hb3⟩
   have HB3:=Hd (zB HBE.out hb3)
   clear hb3 CP c0' c1' d0' d1' d2'
   cases hz:(q1 == 26&&decide (q3=xs)) with
   | true =>
    have HZ:=Hd (HQ.out (k:Int) w3 (HY.out hz) HB3.out)
    clear hz HX HY
    go_wp2_with fail
    exact HZ.out
   | false =>
    have HZ:=Hd (HX.out hz w3 HB3.out)
    clear hz HX HY
    go_wp2_with fail
    exact ⟨HZ.out,by simp only [intOf];omega⟩
  ·obtain rfl:k=hs.length:=by omega
   have HX:=Hd (HQ.out (-1) wr (zUf HNO.out) HB.out)
   go_wp2_with fail
   exact HX.out
end Go.Proofs.YtfalelkfhandfaaGreatDoor
namespace Go.Proofs.YtfalelkfhandfaaGreatDoor
set_option maxRecDepth 100000
set_option maxHeartbeats 32000000
set_option linter.all false
attribute [local irreducible] Calls
attribute [local irreducible] wpStill
open Go.RowKit

def kindV (l:List Prt) (u:Int):Int:=match kindI l u with
 | some k=>(k:Int)
 | none=>255
theorem zDp (l:List Prt) (u:Int) (n:Nat) (hn:n≠255):(kindI l u == some n)=(kindV l u == (n:Int)):=by
 unfold kindV
 cases kindI l u with
 | none=>simp;omega
 | some k=>rw [Bool.eq_iff_iff];simp;omega
theorem zQy (l:List Prt) (hl:l.length≤1000000000) (v:Value) (u:Int) (h2:u<l.length) (w:World) (hr:zD w v l) :
  Calls Tryz.prog 95 #[v,.int .i64 u] w fun e w'=>e=.returned (.int .u8 (kindV l u))∧w=w':=by
 have HQ:Hid (∀ x,kindV l u=x→(fun (e:Ending) w'=>e=.returned (.int .u8 (kindV l u))∧w=w') (.returned (.int .u8 x)) w):=Hd fun x h=>⟨by rw [h],rfl⟩
 generalize (fun (e:Ending) w'=>e=.returned (.int .u8 (kindV l u))∧w=w')=Q at *
 obtain ⟨va,vcap,rfl,hvc⟩:=hr.slice
 by_cases hu:u<0
 ·have HX:=Hd (HQ.out 255 (by unfold kindV kindI;rw [if_pos hu]))
  go_enter Tryz.func95,Tryz.ntmps95
  go_wp2_with fail
  exact HX.out
 ·obtain ⟨k,rfl⟩:∃ k:Nat,u=(k:Int):=⟨u.toNat,by omega⟩
  have hk:k<l.length:=by omega
  obtain ⟨b,off,rfl,_,_,hbl,hcell⟩:=hr.at (Below.refl _ _) (show 0<l.length by omega)
  have c0:=(hcell k hk).1
  have hk0:(0:Int)≤(k:Int):=by omega
  have hkl:(k:Int)<l.length:=by omega
  have hneg:¬ (k:Int)<0:=by omega
  have HX:=Hd (HQ.out ((l[k]).1:Int) (by unfold kindV kindI;rw [if_neg hneg,Int.toNat_natCast,List.getElem?_eq_getElem hk];rfl))
  clear hcell hr HQ
  generalize (l[k]).1=x at *
  go_enter Tryz.func95,Tryz.ntmps95
  go_wp2_with fail
  exact HX.out
def topN (l:List Prt) (i:Nat):Int:=if upN l i<0 then -1 else upN l (upN l i).toNat
theorem zKk (l:List Prt) {u:Int} (h:u<0):kindV l u=255:=by unfold kindV kindI;rw [if_pos h]
theorem zOs (l:List Prt) (k i:Nat):xP l k i=if k=5 then kindV l (upN l i) == 50 else if k=7 then (kindV l (upN l i) == 50&&kindV l (topN l i) == 13) else if k=6 then (kindV l (upN l i) == 11 || kindV l (upN l i) == 12) else true:=by
 unfold xP
 rw [zDp _ _ 50 (by omega),zDp _ _ 13 (by omega),zDp _ _ 11 (by omega),zDp _ _ 12 (by omega)]
 unfold topN
 by_cases h:upN l i<0
 ·rw [if_pos h,zKk l h]
  split
  ·rfl
  ·split
   ·have e:((255:Int) == ((50:Nat):Int))=false:=rfl
    have e2:((255:Int) == (50:Int))=false:=rfl
    rw [e,e2];rfl
   ·rfl
 ·rw [if_neg h];rfl
def rpRel (l:List Prt) (h:Hl) (w0:World) (nv iv:Value) (wr:World):Prop :=
 ∃ k n:Nat,iv=.int .i64 (k:Int)∧nv=.int .i64 (n:Int)∧k≤l.length∧n≤k∧vD l h (l.length-k) k (n:Int)=yU l h∧Below w0.heap.size w0 wr
theorem zIc (l:List Prt) (hl:l.length≤1000000000) (us:List Nat) (hus:zG l=some us) (v:Value) (h:Hl) (w:World) (hr:zD w v l) :
  Calls Tryz.prog 67 #[v,.agg #[.string h.1,.int .u8 (h.2:Int)]] w fun e w'=>e=.returned (.int .i64 (yU l h))∧Below w.heap.size w w':=by
 obtain ⟨hnm,hkd⟩:=h
 simp only []
 have HQ:Hid (∀ z w',yU l (hnm,hkd)=z→Below w.heap.size w w'→(fun (e:Ending) w'=>e=.returned (.int .i64 (yU l (hnm,hkd)))∧Below w.heap.size w w') (.returned (.int .i64 z)) w'):=Hd fun z w' hz hb=>⟨by rw [hz],hb⟩
 generalize (fun (e:Ending) w'=>e=.returned (.int .i64 (yU l (hnm,hkd)))∧Below w.heap.size w w')=Q at *
 have hbx:Below w.heap.size w (w.alloc (.cells #[.string hnm,.int .u8 (hkd:Int)] 49)):=(Below.refl _ _).alloc (Nat.le_refl _) _
 have HBX:=Hd hbx
 have HX0:Hid ((w.alloc (.cells #[.string hnm,.int .u8 (hkd:Int)] 49)).heap[w.heap.size]?=some (.cells #[.string hnm,.int .u8 (hkd:Int)] 49 (0,0))):=Hd (heap_alloc_new _ _)
 have HR:=Hd hr
 have CUP:=Hd (fun (i:Nat) (hi:i<l.length) W (hb:Below w.heap.size w W)=>zPj l hl us hus v i hi W (hr.below hb))
 have CKD:=Hd (fun (u:Int) (hu:u<l.length) W (hb:Below w.heap.size w W)=>zQy l hl v u hu W (hr.below hb))
 obtain ⟨va,vcap,rfl,hvc⟩:=hr.slice
 clear hr hbx
 go_enter Tryz.func67,Tryz.ntmps67
 go_upto_region 2 with (fail)
 generalize w.alloc (.cells #[.string hnm,.int .u8 (hkd:Int)] 49)=w1 at *
 go_wp2_with fail
 go_loopw [5,6] (fun nv iv wr=>rpRel l (hnm,hkd) w1 nv iv wr) (fun _ iv _=>l.length-(intOf iv).toNat)
 case atStart=>exact ⟨0,0,rfl,rfl,Nat.zero_le _,Nat.le_refl _,rfl,Below.refl _ _⟩
 case round =>
  obtain ⟨k,n,rfl,rfl,hk,hnk,hpf,hb⟩:=hrel
  have HB:=Hd hb
  have HPF:=Hd hpf
  clear hb hpf
  have HBW:Hid (Below w.heap.size w wr):=Hd (HBX.out.trans (HB.out.mono HBX.out.size))
  by_cases hlt:k<l.length
  ·obtain ⟨b,off,rfl,_,_,hbl,hcell⟩:=HR.out.at (HBW.out) (show 0<l.length by omega)
   obtain ⟨d0,d1,d2⟩:=hcell k hlt
   have hs:=HPF.out
   rw [show l.length-k=(l.length-(k+1))+1 by omega,vD,List.getElem?_eq_getElem hlt] at hs
   have HS:=Hd hs
   have CP:=Hd (fun W=>zEo l[k] hnm hkd W)
   have HPR:=Hd (show vH l[k] (hnm,hkd)=((l[k]).1 == 26&&decide ((l[k]).2.2=hnm)) from rfl)
   generalize hp:l[k]=p at *
   obtain ⟨a,c,s⟩:=p
   simp only [] at d0 d1 d2 CP HS HPR
   have hx1:=keeps HB.out HX0.out
   have g0:wr.cell? ⟨w.heap.size,0,none⟩=some (.string hnm):=by simp [World.cell?,hx1]
   have g1:wr.cell? ⟨w.heap.size,1,none⟩=some (.int .u8 (hkd:Int)):=by simp [World.cell?,hx1]
   have hk0:(0:Int)≤(k:Int):=by omega
   have hkl:(k:Int)<l.length:=by omega
   have hkc:(k:Int)<vcap:=by omega
   clear hcell hs hx1 hp
   go_upto_region 5 with (fail)
   go_still_tail 5,(by kernel_rfl)
   go_wp2_with fail
   refine (CP.out _).mono ?_
   rintro e w2 ⟨rfl,hb2⟩
   have HB2:=Hd (zB HB.out.drew hb2)
   clear hb2 CP d0 d1 d2 g0 g1
   rw [← HPR.out]
   cases hpl:vH (a,c,s) (hnm,hkd) with
   | false =>
    have HX:Hid (vD l (hnm,hkd) (l.length-(k+1)) (k+1) (n:Int)=yU l (hnm,hkd)):=Hd (by have:=HS.out;rw [hpl] at this;simpa using this)
    clear hpl
    go_wp2_with fail
    exact ⟨⟨k+1,n,by push_cast;rfl,rfl,by omega,by omega,HX.out,HB2.out⟩,by simp only [intOf];omega⟩
   | true =>
   have HSO:Hid (xP l hkd k=true→vD l (hnm,hkd) (l.length-(k+1)) (k+1) ((n:Int)+1)=yU l (hnm,hkd)):=Hd fun e=>by have:=HS.out;rw [hpl,e] at this;simpa using this
   have HSN:Hid (xP l hkd k=false→yU l (hnm,hkd)=-1):=Hd fun e=>by have:=HS.out;rw [hpl,e] at this;simpa using this.symm
   have HYES:Hid (xP l hkd k=true→∀ W,Below w1.heap.size w1 W→rpRel l (hnm,hkd) w1 (.int .i64 ((n:Int)+1)) (.int .i64 ((k:Int)+1)) W):=Hd fun e W hb=>⟨k+1,n+1,by push_cast;rfl,by push_cast;rfl,by omega,by omega,by have:=HSO.out e;push_cast;exact this,hb⟩
   have HNO:Hid (xP l hkd k=false→∀ W,Below w1.heap.size w1 W→Q (.returned (.int .i64 (-1))) W):=Hd fun e W hb=>HQ.out (-1) W (HSN.out e) (HBX.out.trans (hb.mono HBX.out.size))
   have HBW2:Hid (Below w.heap.size w w2):=Hd ((HBX.out.trans (HB2.out.mono HBX.out.size)))
   have hx2:=keeps HB2.out HX0.out
   have g0:w2.cell? ⟨w.heap.size,0,none⟩=some (.string hnm):=by simp [World.cell?,hx2]
   have g1:w2.cell? ⟨w.heap.size,1,none⟩=some (.int .u8 (hkd:Int)):=by simp [World.cell?,hx2]
   have hge:=zRd l k
   have hlt2:=zAd l k
   have HPK:=Hd (zOs l hkd k)
   have CU:=Hd (CUP.out k hlt w2 HBW2.out)
   have HUU:=Hd (show upI l k k=upN l k from rfl)
   rw [HUU.out] at CU
   have CKU:=Hd (CKD.out (upN l k) (by omega) w2 HBW2.out)
   have CKT:=Hd (CKD.out (topN l k) (by unfold topN;split;omega;have:=zAd l (upN l k).toNat;omega) w2 HBW2.out)
   have HMS:Hid (l.length-(k+1)<l.length-k):=Hd (by omega)
   have hwn:IntKind.i64.wrap ((n:Int)+1)=(n:Int)+1:=wI (by omega)
   clear hx2 hpl
   go_wp2_with fail
   refine CU.out.mono ?_
   rintro e w3 ⟨rfl,rfl⟩
   clear CU
   by_cases hu:upN l k<0
   ·have ht:topN l k=-1:=by unfold topN;rw [if_pos hu]
    rw [ht] at CKT HPK
    have HU:=Hd (show 0≤upN l k→False from fun h=>by omega)
    have hx50:kindV l (upN l k)=255:=zKk l hu
    rw [hx50] at CKU HPK
    clear ht hx50
    generalize upN l k=u at *
    generalize kindV l (-1)=y at *
    have hu0:¬ (0:Int)≤u:=fun h=>HU.out h
    clear hge hlt2
    by_cases k5:hkd=5
    ·subst k5
     have HZ:=Hd (HNO.out (by rw [HPK.out];rfl) w2 HB2.out)
     clear HYES HNO HSO HSN HPK
     go_wp2_with fail
     refine CKU.out.mono ?_
     rintro e w4 ⟨rfl,rfl⟩
     go_wp2_with fail
     exact HZ.out
    have f5:((hkd:Int) == 5)=false:=by rw [beq_eq_false_iff_ne];omega
    by_cases k7:hkd=7
    ·subst k7
     have HZ:=Hd (HNO.out (by rw [HPK.out];rfl) w2 HB2.out)
     clear HYES HNO HSO HSN HPK
     go_wp2_with fail
     refine CKU.out.mono ?_
     rintro e w4 ⟨rfl,rfl⟩
     go_wp2_with fail
     exact HZ.out
    have f7:((hkd:Int) == 7)=false:=by rw [beq_eq_false_iff_ne];omega
    by_cases k6:hkd=6
    ·subst k6
     have HZ:=Hd (HNO.out (by rw [HPK.out];rfl) w2 HB2.out)
     clear HYES HNO HSO HSN HPK
     go_wp2_with fail
     refine CKU.out.mono ?_
     rintro e w4 ⟨rfl,rfl⟩
     go_wp2_with fail
     refine CKU.out.mono ?_
     rintro e w4 ⟨rfl,rfl⟩
     go_wp2_with fail
     exact HZ.out
    have f6:((hkd:Int) == 6)=false:=by rw [beq_eq_false_iff_ne];omega
    have HZ:=Hd (HYES.out (by rw [HPK.out];rw [if_neg k5,if_neg k7,if_neg k6]) w2 HB2.out)
    clear HYES HNO HSO HSN HPK
    go_wp2_with fail
    refine ⟨?_,by have:=HMS.out;first | (simp only [intOf];omega) | (simp [intOf];omega) | exact this⟩
    first
     | exact HZ.out
     | (repeat apply Exists.intro
        refine ⟨?_,rfl⟩
        exact HZ.out)
   ·obtain ⟨j,hj⟩:∃ j:Nat,upN l k=(j:Int):=⟨(upN l k).toNat,by omega⟩
    have ht:topN l k=upN l j:=by unfold topN;rw [if_neg hu,hj,Int.toNat_natCast]
    rw [ht] at CKT HPK
    have CU2:=Hd (CUP.out j (by omega) w2 HBW2.out)
    rw [show upI l j j=upN l j from rfl] at CU2
    rw [hj] at CKU HPK ⊢
    have hu0:(0:Int)≤(j:Int):=by omega
    clear ht hj hge hlt2 hu
    generalize upN l j=u2 at *
    generalize kindV l u2=y at *
    generalize kindV l (j:Int)=x at *
    by_cases k5:hkd=5
    ·subst k5
     cases hx:x == 50 with
     | true =>
      have hx2:(x != 50)=false:=by rw [bne_eq_false_iff_eq];exact eq_of_beq hx
      have HZ:=Hd (HYES.out (by rw [HPK.out];rw [if_pos rfl];exact hx) w2 HB2.out)
      clear HYES HNO HSO HSN HPK
      go_wp2_with fail
      refine CU2.out.mono ?_
      rintro e w4 ⟨rfl,rfl⟩
      go_wp2_with fail
      refine CKU.out.mono ?_
      rintro e w4 ⟨rfl,rfl⟩
      go_wp2_with fail
      refine ⟨?_,by have:=HMS.out;first | (simp only [intOf];omega) | (simp [intOf];omega) | exact this⟩
      first
       | exact HZ.out
       | (repeat apply Exists.intro
          refine ⟨?_,rfl⟩
          exact HZ.out)
     | false =>
      have hx2:(x != 50)=true:=by rw [bne_iff_ne];exact ne_of_beq_false hx
      have HZ:=Hd (HNO.out (by rw [HPK.out];rw [if_pos rfl];exact hx) w2 HB2.out)
      clear HYES HNO HSO HSN HPK
      go_wp2_with fail
      refine CU2.out.mono ?_
      rintro e w4 ⟨rfl,rfl⟩
      go_wp2_with fail
      refine CKU.out.mono ?_
      rintro e w4 ⟨rfl,rfl⟩
      go_wp2_with fail
      exact HZ.out
    have f5:((hkd:Int) == 5)=false:=by rw [beq_eq_false_iff_ne];omega
    by_cases k7:hkd=7
    ·subst k7
     cases hx:x == 50 with
     | true =>
      have hx2:(x != 50)=false:=by rw [bne_eq_false_iff_eq];exact eq_of_beq hx
      cases hy:y == 13 with
      | true =>
       have hy2:(y != 13)=false:=by rw [bne_eq_false_iff_eq];exact eq_of_beq hy
       have HZ:=Hd (HYES.out (by rw [HPK.out];rw [if_neg (by omega),if_pos rfl,hx,hy];rfl) w2 HB2.out)
       clear HYES HNO HSO HSN HPK
       go_wp2_with fail
       refine CU2.out.mono ?_
       rintro e w4 ⟨rfl,rfl⟩
       go_wp2_with fail
       refine CKU.out.mono ?_
       rintro e w4 ⟨rfl,rfl⟩
       go_wp2_with fail
       refine CKT.out.mono ?_
       rintro e w4 ⟨rfl,rfl⟩
       go_wp2_with fail
       refine ⟨?_,by have:=HMS.out;first | (simp only [intOf];omega) | (simp [intOf];omega) | exact this⟩
       first
        | exact HZ.out
        | (repeat apply Exists.intro
           refine ⟨?_,rfl⟩
           exact HZ.out)
      | false =>
       have hy2:(y != 13)=true:=by rw [bne_iff_ne];exact ne_of_beq_false hy
       have HZ:=Hd (HNO.out (by rw [HPK.out];rw [if_neg (by omega),if_pos rfl,hx,hy];rfl) w2 HB2.out)
       clear HYES HNO HSO HSN HPK
       go_wp2_with fail
       refine CU2.out.mono ?_
       rintro e w4 ⟨rfl,rfl⟩
       go_wp2_with fail
       refine CKU.out.mono ?_
       rintro e w4 ⟨rfl,rfl⟩
       go_wp2_with fail
       refine CKT.out.mono ?_
       rintro e w4 ⟨rfl,rfl⟩
       go_wp2_with fail
       exact HZ.out
     | false =>
      have hx2:(x != 50)=true:=by rw [bne_iff_ne];exact ne_of_beq_false hx
      have HZ:=Hd (HNO.out (by rw [HPK.out];rw [if_neg (by omega),if_pos rfl,hx];rfl) w2 HB2.out)
      clear HYES HNO HSO HSN HPK
      go_wp2_with fail
      refine CU2.out.mono ?_
      rintro e w4 ⟨rfl,rfl⟩
      go_wp2_with fail
      refine CKU.out.mono ?_
      rintro e w4 ⟨rfl,rfl⟩
      go_wp2_with fail
      exact HZ.out
    have f7:((hkd:Int) == 7)=false:=by rw [beq_eq_false_iff_ne];omega
    by_cases k6:hkd=6
    ·subst k6
     cases hx:x == 11 with
     | true =>
      have hx2:(x != 11)=false:=by rw [bne_eq_false_iff_eq];exact eq_of_beq hx
      have HZ:=Hd (HYES.out (by rw [HPK.out];rw [if_neg (by omega),if_neg (by omega),if_pos rfl,hx];rfl) w2 HB2.out)
      clear HYES HNO HSO HSN HPK
      go_wp2_with fail
      refine CU2.out.mono ?_
      rintro e w4 ⟨rfl,rfl⟩
      go_wp2_with fail
      refine CKU.out.mono ?_
      rintro e w4 ⟨rfl,rfl⟩
      go_wp2_with fail
      refine ⟨?_,by have:=HMS.out;first | (simp only [intOf];omega) | (simp [intOf];omega) | exact this⟩
      first
       | exact HZ.out
       | (repeat apply Exists.intro
          refine ⟨?_,rfl⟩
          exact HZ.out)
     | false =>
      have hx2:(x != 11)=true:=by rw [bne_iff_ne];exact ne_of_beq_false hx
      cases hy:x == 12 with
      | true =>
       have hy2:(x != 12)=false:=by rw [bne_eq_false_iff_eq];exact eq_of_beq hy
       have HZ:=Hd (HYES.out (by rw [HPK.out];rw [if_neg (by omega),if_neg (by omega),if_pos rfl,hx,hy];rfl) w2 HB2.out)
       clear HYES HNO HSO HSN HPK
       go_wp2_with fail
       refine CU2.out.mono ?_
       rintro e w4 ⟨rfl,rfl⟩
       go_wp2_with fail
       refine CKU.out.mono ?_
       rintro e w4 ⟨rfl,rfl⟩
       go_wp2_with fail
       refine CKU.out.mono ?_
       rintro e w4 ⟨rfl,rfl⟩
       go_wp2_with fail
       refine ⟨?_,by have:=HMS.out;first | (simp only [intOf];omega) | (simp [intOf];omega) | exact this⟩
       first
        | exact HZ.out
        | (repeat apply Exists.intro
           refine ⟨?_,rfl⟩
           exact HZ.out)
      | false =>
       have hy2:(x != 12)=true:=by rw [bne_iff_ne];exact ne_of_beq_false hy
       have HZ:=Hd (HNO.out (by rw [HPK.out];rw [if_neg (by omega),if_neg (by omega),if_pos rfl,hx,hy];rfl) w2 HB2.out)
       clear HYES HNO HSO HSN HPK
       go_wp2_with fail
       refine CU2.out.mono ?_
       rintro e w4 ⟨rfl,rfl⟩
       go_wp2_with fail
       refine CKU.out.mono ?_
       rintro e w4 ⟨rfl,rfl⟩
       go_wp2_with fail
       refine CKU.out.mono ?_
       rintro e w4 ⟨rfl,rfl⟩
       go_wp2_with fail
       exact HZ.out
    have f6:((hkd:Int) == 6)=false:=by rw [beq_eq_false_iff_ne];omega
    have HZ:=Hd (HYES.out (by rw [HPK.out];rw [if_neg k5,if_neg k7,if_neg k6]) w2 HB2.out)
    clear HYES HNO HSO HSN HPK
    go_wp2_with fail
    refine CU2.out.mono ?_
    rintro e w4 ⟨rfl,rfl⟩
    go_wp2_with fail
    refine ⟨?_,by have:=HMS.out;first | (simp only [intOf];omega) | (simp [intOf];omega) | exact this⟩
    first
     | exact HZ.out
     | (repeat apply Exists.intro
        refine ⟨?_,rfl⟩
        exact HZ.out)
  ·have hkl:k=l.length:=by omega
   subst hkl
   have hz:=HPF.out
   rw [Nat.sub_self,vD] at hz
   have HX:=Hd (HQ.out _ wr hz.symm HBW.out)
   go_wp2_with fail
   exact HX.out
end Go.Proofs.YtfalelkfhandfaaGreatDoor
namespace Go.Proofs.YtfalelkfhandfaaGreatDoor
set_option maxRecDepth 100000
set_option maxHeartbeats 32000000
set_option linter.all false
attribute [local irreducible] Calls
open Go.RowKit

@[irreducible] def fupsPost (l:List Prt) (w0:World) (e:Ending) (w':World):Prop :=
 ∃ v,e=.returned v∧Below w0.heap.size w0 w'∧w'.ownsRow w0.heap.size 3 1 v l.length (((List.range l.length).map (upN l)).map (Value.int .i64))
def fupRel (l:List Prt) (w:World) (iv:Value) (wr:World):Prop:=∃ i:Nat,iv=.int .i64 (i:Int)∧i≤l.length∧wr.heap[w.heap.size]?=some (.cells ((upsE l i (i+1)).map (Value.int .i64)).toArray 3 (0,0))∧Below w.heap.size w wr
def fupKid (l:List Prt) (i:Nat) (w:World) (kv:Value) (wr:World):Prop:=∃ n:Nat,kv=.int .i64 (zQ l n (i+1):Int)∧(∀ m,m<n→zQ l m (i+1)<zC l i)∧zQ l n (i+1)≤l.length∧wr.heap[w.heap.size]?=some (.cells ((upsE l i (zQ l n (i+1))).map (Value.int .i64)).toArray 3 (0,0))∧Below w.heap.size w wr
theorem zZg (l:List Prt) (hl:l.length≤1000000000) (hw:zZ l=true) (vl ve:Value) (w:World) (hlr:zD w vl l) (her:zI w ve .i64 (endsL l)) :
  Calls Tryz.prog 19 #[vl,ve] w (fupsPost l w):=by
 have HQ:Hid (∀ v' w',Below w.heap.size w w'→w'.ownsRow w.heap.size 3 1 v' l.length (((List.range l.length).map (upN l)).map (Value.int .i64))→fupsPost l w (.returned v') w'):=Hd fun v' w' h1 h2=>by
  unfold fupsPost;exact ⟨v',rfl,h1,h2⟩
 generalize fupsPost l w=Q at *
 have HU:=Hd (zK hw)
 have h0:=(xA hw).1
 have HS:=Hd (zPi hw)
 have hel:=xJ l
 have HR:=Hd her
 obtain ⟨va,vcap,rfl,hvc⟩:=hlr.slice
 obtain ⟨ea,ec,rfl,hec,hop⟩:=her.open'
 rw [hel] at hec
 obtain ⟨eb,eo,rfl,heb,y3⟩:=hop (by rw [hel];omega)
 clear y3 hlr her hw hop
 have hmk:=fD l.length hl
 rw [hel] at HR
 rw [hel]
 go_enter Tryz.func19,Tryz.ntmps19
 have h00:(0:Int)<l.length:=by omega
 have HZ1:Hid ((w.alloc (.cells ((Array.replicate l.length (Value.int .i64 0)).setIfInBounds 0 (.int .i64 (-1))) 3)).heap[w.heap.size]?=some (.cells ((upsE l 0 (0+1)).map (Value.int .i64)).toArray 3 (0,0))):=Hd (by
  rw [HS.out,heap_alloc_new,List.map_set,List.map_replicate,← List.setIfInBounds_toArray,List.toArray_replicate])
 have HZ2:Hid (Below w.heap.size w (w.alloc (.cells ((Array.replicate l.length (Value.int .i64 0)).setIfInBounds 0 (.int .i64 (-1))) 3))):=Hd ((Below.refl _ _).alloc (Nat.le_refl _) _)
 have z0:(w.alloc (.cells (Array.replicate l.length (Value.int .i64 0)) 3)).cell? ⟨w.heap.size,0,none⟩=some (.int .i64 0):=by
  rw [World.cell?_alloc_at _ _ _ _ rfl];simp [h0]
 have z1:(w.alloc (.cells (Array.replicate l.length (Value.int .i64 0)) 3)).frozen? ⟨w.heap.size,0,none⟩=false:=by
  unfold World.frozen?
  rw [heap_alloc_new]
  rfl
 go_wp2_with fail
 clear z0 z1
 generalize w.alloc (.cells ((Array.replicate l.length (Value.int .i64 0)).setIfInBounds 0 (.int .i64 (-1))) 3)=W0 at *
 generalize hBB:w.heap.size=B at *
 have HBB:=Hd hBB
 clear hBB
 go_loopw [15] (fun iv wr=>fupRel l w iv wr) (fun iv _=>l.length-(intOf iv).toNat)
 case atStart=>exact ⟨0,rfl,Nat.zero_le _,by rw [HBB.out];exact HZ1.out,by rw [HBB.out];exact HZ2.out⟩
 case round =>
  obtain ⟨i,rfl,hi,hh,hb⟩:=hrel
  rw [HBB.out] at hh hb
  have HH:=Hd hh
  have HB:=Hd hb
  clear hh hb
  by_cases hlt:i<l.length
  case neg =>
   obtain rfl:i=l.length:=by omega
   have HX:=Hd (HQ.out (.slice (some ⟨B,0,none⟩) l.length l.length) wr HB.out (zGp (by rw [← zYr];exact HH.out) (Nat.le_refl _) (by simp) hl))
   go_wp2_with fail
   exact HX.out
  have hi0:(0:Int)≤(i:Int):=by omega
  have hil:(i:Int)<l.length:=by omega
  have hic:(i:Int)<ec:=by omega
  have hwi:IntKind.i64.wrap ((i:Int)+1)=(i:Int)+1:=wI (by omega)
  have hgi:=zN HU.out hlt
  have HAT:Hid (fupKid l i w (.int .i64 ((i:Int)+1)) wr):=Hd ⟨0,by show _=Value.int .i64 (((i+1:Nat)):Int);push_cast;rfl,fun m hm=>absurd hm (Nat.not_lt_zero _),hlt,by rw [HBB.out];exact HH.out,by rw [HBB.out];exact HB.out⟩
  go_wp2_with fail
  go_loopw [7] (fun kv wx=>fupKid l i w kv wx) (fun kv _=>zC l i-(intOf kv).toNat)
  case atStart=>exact HAT.out
  case round =>
   obtain ⟨n,rfl,hlm,hkl,hh2,hb2⟩:=hrel
   rw [HBB.out] at hh2 hb2
   have HH2:=Hd hh2
   have HB2:=Hd hb2
   have HLM:=Hd hlm
   clear hh2 hb2 HAT hlm
   obtain ⟨b2,o2,e',y1,y2,hcell⟩:=zAz HR.out (HBB.out ▸ HB2.out) (by rw [hel];omega)
   simp only [Option.some.injEq,Addr.mk.injEq,and_true] at e'
   obtain ⟨rfl,rfl⟩:=e'
   clear y1 y2
   have ci:=hcell _ _ (jB (l:=l) (j:=i) hlt)
   by_cases hke:zQ l n (i+1)<zC l i
   case neg =>
    have g1:¬ (zQ l n (i+1):Int)<(zC l i:Int):=by omega
    have HX:Hid (fupRel l w (.int .i64 ((i:Int)+1)) wr):=Hd ⟨i+1,by push_cast;rfl,hlt,by rw [HBB.out,← zUr HU.out hlt (show zC l i≤zQ l n (i+1) by omega)];exact HH2.out,by rw [HBB.out];exact HB2.out⟩
    clear hcell hkl hke
    generalize zQ l n (i+1)=k at *
    generalize zC l i=ei at *
    go_wp2_with fail
    exact ⟨HX.out,by simp only [intOf];omega⟩
   have hall:∀ m,m≤n→zQ l m (i+1)<zC l i:=fun m hm=>by
    by_cases e:m=n
    ·subst e;exact hke
    ·exact HLM.out m (by omega)
   have hup:=zSj HU.out hlt hall
   have hik:=(zMi HU.out hlt n hall).1
   have ck:=hcell _ _ (jB (l:=l) (j:=zQ l n (i+1)) (by omega))
   have hkg:=zN HU.out (show zQ l n (i+1)<l.length by omega)
   have hcB:wr.cell? ⟨B,zQ l n (i+1),none⟩=some (.int .i64 (upsAt l i (zQ l n (i+1)) (zQ l n (i+1)))):=by
    simp [World.cell?,HH2.out,upsE,show zQ l n (i+1)<l.length by omega]
   have hzB:wr.frozen? ⟨B,zQ l n (i+1),none⟩=false:=by simp [World.frozen?,HH2.out]
   have hbB:eb≠B:=by have:=HBB.out;omega
   have ck2:(wr.setCell ⟨B,zQ l n (i+1),none⟩ (.int .i64 (i:Int))).cell? ⟨eb,eo+zQ l n (i+1),none⟩=some (.int .i64 (zC l (zQ l n (i+1)):Int)):=by
    rw [vX (by exact hbB)];exact ck
   have HX:Hid (fupKid l i w (.int .i64 (zC l (zQ l n (i+1)):Int)) (wr.setCell ⟨B,zQ l n (i+1),none⟩ (.int .i64 (i:Int)))):=Hd ⟨n+1,by rw [kK],fun m hm=>hall m (by omega),by rw [kK];exact hkg.2,by
    rw [HBB.out,kK,← zYq HU.out hlt hik hke hup,heap_setCell_same _ _ _ _ _ _ HH2.out,List.map_set,List.setIfInBounds_toArray],by rw [HBB.out];exact HB2.out.setCell (p:=⟨B,_,none⟩) (Nat.le_refl _) _⟩
   have hk0:(0:Int)≤(zQ l n (i+1):Int):=by omega
   have hkl1:(zQ l n (i+1):Int)<l.length:=by omega
   have hkc1:(zQ l n (i+1):Int)<ec:=by omega
   have hke1:(zQ l n (i+1):Int)<(zC l i:Int):=by omega
   have hkm:Hid (zC l i-zC l (zQ l n (i+1))<zC l i-zQ l n (i+1)):=Hd (by omega)
   generalize upsAt l i (zQ l n (i+1)) (zQ l n (i+1))=old at *
   clear hcell hkl hke hall hup hik hkg
   generalize zC l (zQ l n (i+1))=ek at *
   generalize zQ l n (i+1)=k at *
   generalize zC l i=ei at *
   go_wp2_with fail
   exact ⟨HX.out,by have:=hkm.out;simp only [intOf];omega⟩
end Go.Proofs.YtfalelkfhandfaaGreatDoor
