/- Layer 11 in plain Lean: ends, parts above and kids of a list that is well. -/
import Derived.Test.YtmklemelgdilkaaGreatDoorCoreMk
import Derived.Test.YtmklemelgdilkaaGreatDoorTermMk
namespace Go.Proofs.YtmklemelgdilkaaGreatDoor
set_option linter.all false

theorem rows_at {l:List Prt} {us:List Nat} (h:rowsB l=some us) {i:Nat} (hi:i<l.length):∃ t ts,rowsB (l.drop i)=some (t::ts)∧0<t∧endB l i=i+t∧i+t≤l.length:=by
 obtain ⟨vs,hv⟩:=rowsB_drop h i
 have hs:=rowsB_sum hv
 rw [List.length_drop] at hs
 match vs with
 | []=>simp at hs;omega
 | t::ts =>
  have hp:=hs.2.2 t (by simp)
  have h1:=hs.1
  rw [List.sum_cons] at h1
  exact ⟨t,ts,hv,hp,by unfold endB;rw [headSize_of hv],by omega⟩
theorem endR_end {l:List Prt} {us:List Nat} (h:rowsB l=some us) {i:Nat} (hi:i<l.length):endR l.length (l.drop i) 1 i=some (endB l i):=by
 obtain ⟨t,ts,h1,h2,h3,h4⟩:=rows_at h hi
 rw [endR_rows l.length h1 (by rw [List.length_drop];omega),if_pos (by simp),h3]
 simp
theorem endB_gt {l:List Prt} {us:List Nat} (h:rowsB l=some us) {i:Nat} (hi:i<l.length):i<endB l i∧endB l i≤l.length:=by
 obtain ⟨t,ts,h1,h2,h3,h4⟩:=rows_at h hi
 omega
theorem well_rows {l:List Prt} (h:wellB l=true):rowsB l=some [l.length]:=wellB_iff.1 h
theorem well_zero {l:List Prt} (h:wellB l=true):0<l.length∧endB l 0=l.length:=by
 have h1:=well_rows h
 have:=(rowsB_sum h1).2.2 l.length (by simp)
 refine ⟨this,?_⟩
 unfold endB
 rw [List.drop_zero,headSize_of h1];omega
def upI (l:List Prt) (i:Nat):Nat→Int
 | 0=>-1
 | k+1=>if i<endB l k then (k:Int) else upI l i k
theorem up_pos {l:List Prt} (hw:wellB l=true) {i:Nat} (hi:i<l.length):∀ k,0<k→0≤upI l i k
 | 1,_=>by
  rw [upI,if_pos (by rw [(well_zero hw).2];exact hi)];omega
 | k+2,_=>by
  rw [upI]
  split
  ·omega
  ·exact up_pos hw hi (k+1) (by omega)

def kidsB (l:List Prt) (i:Nat):List Nat:=match rowsB (l.drop (i+1)),l[i]? with
 | some ts,some p=>(starts (i+1) ts).take p.2.1.toNat
 | _,_=>[]
theorem kids_facts {l:List Prt} {us:List Nat} (h:rowsB l=some us) {i:Nat} (hi:i<l.length) :
  ∃ ts q,rowsB (l.drop (i+1))=some ts∧(l[i]).2.1=((q:Nat):Int)∧q≤ts.length∧endB l i=i+1+(ts.take q).sum∧kidsB l i=(starts (i+1) ts).take q:=by
 obtain ⟨vs,hv⟩:=rowsB_drop h i
 rw [List.drop_eq_getElem_cons hi] at hv
 obtain ⟨ts,h1,h2,h3,h4⟩:=rowsB_inv hv
 refine ⟨ts,(l[i]).2.1.toNat,h1,by omega,by omega,?_,?_⟩
 ·unfold endB
  rw [List.drop_eq_getElem_cons hi]
  subst h4
  rw [headSize_of hv];omega
 ·unfold kidsB
  rw [h1,List.getElem?_eq_getElem hi]
theorem kid_step {l:List Prt} {us:List Nat} (h:rowsB l=some us) {i:Nat} {ts:List Nat} {q n:Nat} (hts:rowsB (l.drop (i+1))=some ts) (hq:q≤ts.length) (hn:n<q) :
  i+1+(ts.take n).sum<l.length∧endB l (i+1+(ts.take n).sum)=i+1+(ts.take (n+1)).sum∧(starts (i+1) ts).take (n+1)=(starts (i+1) ts).take n++[i+1+(ts.take n).sum]∧(ts.take n).sum<(ts.take q).sum∧(ts.take n).sum<(ts.take (n+1)).sum∧(ts.take (n+1)).sum≤(ts.take q).sum:=by
 have hk:=rowsB_skip n hts (by omega)
 rw [List.drop_drop] at hk
 have hd:ts.drop n=ts[n]::ts.drop (n+1):=List.drop_eq_getElem_cons (by omega)
 have hsum:(ts.take (n+1)).sum=(ts.take n).sum+ts[n]:=by rw [List.take_succ_eq_append_getElem (by omega),List.sum_append];simp
 have hpos:=(rowsB_sum hts).2.2 ts[n] (List.getElem_mem (by omega))
 have hh:=headSize_of (hk.trans (congrArg some hd))
 have h1:=(rowsB_sum hk).1
 rw [hd,List.sum_cons,List.length_drop] at h1
 refine ⟨by omega,by unfold endB;rw [hh,hsum];omega,?_,?_⟩
 ·have hz:=starts_length ts (i+1)
  rw [List.take_succ_eq_append_getElem (by omega)]
  have:=starts_get ts (i+1) n (by omega)
  rw [List.getD_eq_getElem?_getD,List.getElem?_eq_getElem (by omega)] at this
  simp only [Option.getD_some] at this
  rw [this]
 refine ⟨?_,by omega,?_⟩
 ·have:=sum_take_add ts (n+1) (q-(n+1))
  rw [show n+1+(q-(n+1))=q by omega] at this
  omega
 ·have:=sum_take_add ts (n+1) (q-(n+1))
  rw [show n+1+(q-(n+1))=q by omega] at this
  omega
end Go.Proofs.YtmklemelgdilkaaGreatDoor
namespace Go.Proofs.YtmklemelgdilkaaGreatDoor
set_option linter.all false
open Go.RowKit

theorem drewB {B:Nat} {a w:World} (h:Below B a w) (n:Nat):Below B a (w.drewN n):=⟨h.os,h.tape,h.output,h.size,h.block⟩
def TellsEq (x:Bool) (a b:List Prt):Prop:=x=true↔a=b
def PK (W:World) (g:Nat) (p:Prt):Prop:=W.heap[g]?=some (.cells #[.int .u8 (p.1:Int),.int .i64 p.2.1,.string p.2.2] 45 (0,0))
theorem PK.c0 {W:World} {g:Nat} {p:Prt} (h:PK W g p):W.cell? ⟨g,0,none⟩=some (.int .u8 (p.1:Int)):=by unfold PK at h;simp [World.cell?,h]
theorem PK.c1 {W:World} {g:Nat} {p:Prt} (h:PK W g p):W.cell? ⟨g,1,none⟩=some (.int .i64 p.2.1):=by unfold PK at h;simp [World.cell?,h]
theorem PK.c2 {W:World} {g:Nat} {p:Prt} (h:PK W g p):W.cell? ⟨g,2,none⟩=some (.string p.2.2):=by unfold PK at h;simp [World.cell?,h]
theorem PK.fz {W:World} {g:Nat} {p:Prt} (h:PK W g p) (i:Nat):W.frozen? ⟨g,i,none⟩=false:=by unfold PK at h;simp [World.frozen?,h]
theorem PK.keep {W W':World} {g:Nat} {p:Prt} (h:PK W g p) (hb:Below W.heap.size W W'):PK W' g p:=by unfold PK at h ⊢;rw [hb.block g (lt_of_block h)];exact h
theorem PK.alloc_new (W:World) (p:Prt):PK (W.alloc (.cells #[.int .u8 (p.1:Int),.int .i64 p.2.1,.string p.2.2] 45)) W.heap.size p:=by unfold PK;exact heap_alloc_new _ _
def sameRel (a b:List Prt) (w:World) (i:Value) (wr:World):Prop:=∃ k:Nat,i=.int .i64 (k:Int)∧k≤a.length∧a.take k=b.take k∧Below w.heap.size w wr
set_option maxRecDepth 100000 in
set_option maxHeartbeats 8000000 in
theorem ref_Same11 (v1 v2:Value) (a b:List Prt) (hla:a.length≤1000000000) (hlb2:b.length≤1000000000) (w:World) (hr1:PartRow w v1 a) (hr2:PartRow w v2 b) :
  Calls Tryz.prog 9 #[v1,v2] w fun e w'=>∃ x,e=.returned (.bool x)∧TellsEq x a b∧Below w.heap.size w w':=by
 have HQ:RowKit.Hid (∀ x w',TellsEq x a b→Below w.heap.size w w'→(fun (e:Ending) w'=>∃ x,e=.returned (.bool x)∧TellsEq x a b∧Below w.heap.size w w') (.returned (.bool x)) w'):=Hd fun x w' h h2=>⟨x,rfl,h,h2⟩
 generalize (fun (e:Ending) w'=>∃ x,e=.returned (.bool x)∧TellsEq x a b∧Below w.heap.size w w')=Q at *
 have HR1:=Hd hr1
 have HR2:=Hd hr2
 obtain ⟨a1,cap1,rfl,hcap1⟩:=hr1.slice
 obtain ⟨a2,cap2,rfl,hcap2⟩:=hr2.slice
 clear hr1 hr2
 go_enter Tryz.func9,Tryz.ntmps9
 by_cases hl:a.length=b.length
 ·have hlb:((a.length:Int) == (b.length:Int))=true:=by rw [beq_iff_eq];omega
  have hlc:((a.length:Int) != (b.length:Int))=false:=by rw [bne_eq_false_iff_eq];omega
  have hld:(a.length != b.length)=false:=by rw [bne_eq_false_iff_eq];exact hl
  have HL:=Hd hl
  clear hl
  go_wp2_with fail
  go_loopw [5] (fun i wr=>sameRel a b w i wr) (fun i _=>a.length-(intOf i).toNat)
  case atStart=>exact ⟨0,rfl,Nat.zero_le _,rfl,Below.refl _ _⟩
  case round =>
   obtain ⟨k,rfl,hk,htk,hb⟩:=hrel
   have HB:=Hd hb
   have HTK:=Hd htk
   clear hb htk
   by_cases hlt:k<a.length
   ·have hlt':(k:Int)<a.length:=by omega
    have hkb:k<b.length:=by have:=HL.out;omega
    obtain ⟨b1,o1,rfl,_,_,_,hc1⟩:=HR1.out.at HB.out (show 0<a.length by omega)
    obtain ⟨b2,o2,rfl,_,_,_,hc2⟩:=HR2.out.at HB.out (show 0<b.length by omega)
    obtain ⟨d0,d1,d2⟩:=hc1 k hlt
    obtain ⟨e0,e1,e2⟩:=hc2 k hkb
    have hk0:(0:Int)≤k:=by omega
    have hlt2:(k:Int)<b.length:=by omega
    have hkc1:(k:Int)<cap1:=by omega
    have hkc2:(k:Int)<cap2:=by omega
    have hwk:IntKind.i64.wrap ((k:Int)+1)=((k+1:Nat):Int):=by rw [IntKind.wrap_i64];omega
    have HK1:RowKit.Hid (k+1≤a.length):=Hd hlt
    have HML:RowKit.Hid (a.length-(k+1)<a.length-k):=Hd (by omega)
    have HX:=Hd (fun (h:a[k]=b[k])=>show a.take (k+1)=b.take (k+1) by
     rw [List.take_succ_eq_append_getElem hlt,List.take_succ_eq_append_getElem hkb,HTK.out];exact congrArg (fun z=>List.take k b++[z]) h)
    have HY:=Hd (fun (h:a[k]≠b[k])=>show TellsEq false a b from ⟨(fun e=>by cases e),fun e=>absurd (by subst e;rfl) h⟩)
    clear hc1 hc2
    generalize a[k]=x at *
    generalize hye:b[k]=y at *
    have HYE:=Hd hye
    clear hye
    obtain ⟨xk,xn,xw⟩:=x
    obtain ⟨yk,yn,yw⟩:=y
    simp only [] at d0 d1 d2 e0 e1 e2
    have HB1:=HB
    by_cases hE:xk=yk∧xn=yn∧xw=yw
    ·obtain ⟨rfl,rfl,rfl⟩:=hE
     have HTK1:=Hd (HX.out rfl)
     clear HX HY
     go_wp2_with fail
     go_quiet (fail)
     have HB2:=Hd (drewB HB1.out nq)
     go_wp2_with fail
     have HR:RowKit.Hid (sameRel a b w (.int .i64 ((k+1:Nat):Int)) _):=Hd ⟨k+1,rfl,HK1.out,HTK1.out,HB2.out⟩
     refine ⟨?_,(by have:=HML.out;simp [intOf];try omega)⟩
     first
      | exact HR.out
      | (repeat apply Exists.intro
         refine ⟨?_,rfl⟩
         exact HR.out)
    ·have HF:=Hd (HY.out (fun e=>hE (by simp only [Prod.mk.injEq] at e;exact e)))
     clear HX HY
     have hcs:xk≠yk∨(xk=yk∧xn≠yn)∨(xk=yk∧xn=yn∧xw≠yw):=by
      by_cases h1:xk=yk
      ·by_cases h2:xn=yn
       ·exact Or.inr (Or.inr ⟨h1,h2,fun h3=>hE ⟨h1,h2,h3⟩⟩)
       ·exact Or.inr (Or.inl ⟨h1,h2⟩)
      ·exact Or.inl h1
     clear hE
     rcases hcs with h1 | ⟨rfl,h2⟩ | ⟨rfl,rfl,h3⟩
     ·have f1:((xk:Int) == (yk:Int))=false:=by rw [beq_eq_false_iff_ne];omega
      have f2:(xk == yk)=false:=by rw [beq_eq_false_iff_ne];exact h1
      go_wp2_with fail
      go_quiet (fail)
      have HB2:=Hd (drewB HB1.out nq)
      go_wp2_with fail
      exact HQ.out _ _ HF.out HB2.out
     ·have f1:(xn == yn)=false:=by rw [beq_eq_false_iff_ne];exact h2
      go_wp2_with fail
      go_quiet (fail)
      have HB2:=Hd (drewB HB1.out nq)
      go_wp2_with fail
      exact HQ.out _ _ HF.out HB2.out
     ·have f1:(xw.toList == yw.toList)=false:=by
       rw [beq_eq_false_iff_ne];intro e
       rw [ByteArray.toList_eq,ByteArray.toList_eq] at e
       exact h3 (ByteArray.ext (Array.ext' e))
      go_wp2_with fail
      go_quiet (fail)
      have HB2:=Hd (drewB HB1.out nq)
      go_wp2_with fail
      exact HQ.out _ _ HF.out HB2.out
   ·have hlt':¬ (k:Int)<a.length:=by omega
    have HF:RowKit.Hid (TellsEq true a b):=Hd ⟨fun _=>by
     have h:=HTK.out
     have hl:=HL.out
     rw [List.take_of_length_le (by omega),List.take_of_length_le (by omega)] at h
     exact h,fun _=>rfl⟩
    go_wp2_with fail
    exact HQ.out _ _ HF.out HB.out
 ·have hlb:((a.length:Int) == (b.length:Int))=false:=by rw [beq_eq_false_iff_ne];omega
  have hlc:((a.length:Int) != (b.length:Int))=true:=by rw [bne_iff_ne];omega
  have hld:(a.length != b.length)=true:=by rw [bne_iff_ne];exact hl
  have HF:RowKit.Hid (TellsEq false a b):=Hd ⟨(fun e=>by cases e),fun e=>absurd (by rw [e]) hl⟩
  go_wp2_with fail
  exact HQ.out _ _ HF.out (Below.refl _ _)
end Go.Proofs.YtmklemelgdilkaaGreatDoor
namespace Go.Proofs.YtmklemelgdilkaaGreatDoor
set_option linter.all false
open Go.RowKit

theorem ints_at {w w':World} {a:Option Addr} {n cap:Nat} {p:List Int} (h:RowInts w (.slice a n cap) .i64 p) (hb:Below w.heap.size w w') (hp:0<p.length) :
  ∃ b off,a=some ⟨b,off,none⟩∧n=p.length∧p.length≤cap∧∀ j x,p[j]?=some x→w'.cell? ⟨b,off+j,none⟩=some (.int .i64 x):=by
 obtain ⟨a',cap',hv,hc,h2⟩:=(h.below hb).open'
 simp only [Value.slice.injEq] at hv
 obtain ⟨rfl,rfl,rfl⟩:=hv
 obtain ⟨b,off,ha,_,hcell⟩:=h2 hp
 refine ⟨b,off,ha,rfl,hc,fun j x hx=>?_⟩
 obtain ⟨hj,rfl⟩:=List.getElem?_eq_some_iff.1 hx
 exact hcell j hj
def aboveRel (l:List Prt) (i:Nat) (R:Int) (w:World) (u:Value) (wr:World):Prop:=∃ k:Nat,u=.int .i64 ((k:Int)-1)∧k≤i∧upI l i k=R∧wr=w
end Go.Proofs.YtmklemelgdilkaaGreatDoor
namespace Go.Proofs.YtmklemelgdilkaaGreatDoor
set_option linter.all false
open Go.RowKit

def endI (o:Option Nat):Int:=match o with
 | some e=>e
 | none=>-1
def endRel (l:List Prt) (R:Option Nat) (w:World) (i n:Value) (wr:World):Prop :=
 ∃ j m:Nat,i=.int .i64 (j:Int)∧n=.int .i64 (m:Int)∧j≤l.length∧m≤1+j*l.length∧endR l.length (l.drop j) m j=R∧wr=w
set_option maxRecDepth 100000 in
set_option maxHeartbeats 4000000 in
theorem ref_End11 (l:List Prt) (hl:l.length≤1000000000) (v:Value) (i:Nat) (hi:i≤l.length) (w:World) (hr:PartRow w v l) :
  Calls Tryz.prog 27 #[v,.int .i64 (i:Int)] w fun e w'=>e=.returned (.int .i64 (endI (endR l.length (l.drop i) 1 i)))∧w=w':=by
 have HQ:RowKit.Hid (∀ x,endR l.length (l.drop i) 1 i=x→(fun (e:Ending) w'=>e=.returned (.int .i64 (endI (endR l.length (l.drop i) 1 i)))∧w=w') (.returned (.int .i64 (endI x))) w):=Hd fun x h=>⟨by rw [h],rfl⟩
 generalize (fun (e:Ending) w'=>e=.returned (.int .i64 (endI (endR l.length (l.drop i) 1 i)))∧w=w')=Q at *
 have HR:=Hd hr
 obtain ⟨va,vcap,rfl,hvc⟩:=hr.slice
 clear hr
 have HR0:RowKit.Hid (endR l.length (l.drop i) 1 i=endR l.length (l.drop i) 1 i):=Hd rfl
 generalize hRR:endR l.length (l.drop i) 1 i=R at *
 have HRR:=Hd hRR
 clear hRR HR0
 go_enter Tryz.func27,Tryz.ntmps27
 go_wp2_with fail
 go_loopw [1,5] (fun i n wr=>endRel l R w i n wr) (fun i _ _=>l.length-(intOf i).toNat)
 case atStart=>exact ⟨i,1,rfl,rfl,hi,by omega,HRR.out,rfl⟩
 case round =>
  obtain ⟨j,m,rfl,rfl,hj,hm,hE,rfl⟩:=hrel
  have HE:=Hd hE
  clear hE
  have hjl:j*l.length≤1000000000000000000:=Nat.le_trans (Nat.mul_le_mul (show j≤1000000000 by omega) hl) (by decide)
  have HM:=Hd hm
  have HJL:=Hd hjl
  have hmb:m≤1000000000000000001:=by omega
  clear hm hjl
  by_cases hm0:0<m
  ·have hm0':(0:Int)<m:=by omega
   obtain ⟨n,rfl⟩:∃ n,m=n+1:=⟨m-1,by omega⟩
   by_cases hlt:j<l.length
   ·have hlt':(j:Int)<l.length:=by omega
    obtain ⟨b,off,rfl,_,_,_,hcell⟩:=HR.out.at (Below.refl _ _) (show 0<l.length by omega)
    have c0:=(hcell j hlt).2.1
    have hdr:l.drop j=l[j]::l.drop (j+1):=List.drop_eq_getElem_cons hlt
    have hst:=HE.out
    rw [hdr,endR] at hst
    have hj0:(0:Int)≤j:=by omega
    have hjn:¬ (j:Int)<0:=by omega
    have hjc:(j:Int)<vcap:=by omega
    have hwj:IntKind.i64.wrap ((j:Int)+1)=(j:Int)+1:=by rw [IntKind.wrap_i64];omega
    have hwn:IntKind.i64.wrap ((n:Int)+1-1)=(n:Int):=by rw [IntKind.wrap_i64];omega
    clear hcell hdr
    have HST:=Hd hst
    clear hst
    generalize (l[j]).2.1=x at *
    by_cases hx0:x<0
    ·have hF:R=none:=by rw [← HST.out,if_neg (by omega)]
     have HF:=Hd hF
     clear hF
     go_wp2_with fail
     exact HQ.out none HF.out
    ·by_cases hx1:(l.length:Int)<x
     ·have hF:R=none:=by rw [← HST.out,if_neg (by omega)]
      have HF:=Hd hF
      clear hF
      go_wp2_with fail
      exact HQ.out none HF.out
     ·have hG:=HST.out
      rw [if_pos ⟨by omega,by omega⟩] at hG
      obtain ⟨q,rfl⟩:∃ q:Nat,x=q:=⟨x.toNat,by omega⟩
      rw [Int.toNat_natCast] at hG
      have hwq:IntKind.i64.wrap ((n:Int)+(q:Int))=(n:Int)+(q:Int):=by rw [IntKind.wrap_i64];omega
      have HRL:RowKit.Hid (endRel l R wr (.int .i64 ((j+1:Nat):Int)) (.int .i64 ((n+q:Nat):Int)) wr):=Hd ⟨j+1,n+q,rfl,rfl,hlt,by have:=HM.out;rw [Nat.succ_mul];omega,hG,rfl⟩
      have HML:RowKit.Hid (l.length-(j+1)<l.length-j):=Hd (by omega)
      clear hG HST
      go_wp2_with fail
      refine ⟨?_,(by have:=HML.out;simp [intOf];try omega)⟩
      first
       | exact HRL.out
       | (repeat apply Exists.intro
          refine ⟨?_,rfl⟩
          exact HRL.out)
   ·have hlt':¬ (j:Int)<l.length:=by omega
    have hge:(l.length:Int)≤j:=by omega
    have hjn:¬ (j:Int)<0:=by omega
    have hF:R=none:=by rw [← HE.out,List.drop_of_length_le (by omega),endR]
    have HF:=Hd hF
    clear hF
    go_wp2_with fail
    exact HQ.out none HF.out
  ·obtain rfl:m=0:=by omega
   have hF:R=some j:=by rw [← HE.out,endR_zero]
   have HF:=Hd hF
   clear hF
   go_wp2_with fail
   exact HQ.out (some j) HF.out
set_option maxRecDepth 100000 in
theorem ref_Well11 (l:List Prt) (hl:l.length≤1000000000) (v:Value) (w:World) (hr:PartRow w v l) :
  Calls Tryz.prog 33 #[v] w fun e w'=>e=.returned (.bool (wellB l))∧w=w':=by
 have HQ:RowKit.Hid (∀ x,wellB l=x→(fun (e:Ending) w'=>e=.returned (.bool (wellB l))∧w=w') (.returned (.bool x)) w):=Hd fun x h=>⟨by rw [h],rfl⟩
 generalize (fun (e:Ending) w'=>e=.returned (.bool (wellB l))∧w=w')=Q at *
 have C1:=ref_End11 l hl v 0 (Nat.zero_le _) w hr
 rw [List.drop_zero] at C1
 have C1:=Hd C1
 have hw:=@well_endR l
 obtain ⟨va,vcap,rfl,hvc⟩:=hr.slice
 clear hr
 by_cases h0:0<l.length
 ·have h0':(0:Int)<l.length:=by omega
  go_enter Tryz.func33,Tryz.ntmps33
  go_wp2_with fail
  refine C1.out.mono ?_
  rintro e w1 ⟨rfl,rfl⟩
  cases hE:endR l.length l 1 0 with
  | none =>
   have HW:RowKit.Hid (wellB l=false):=Hd (by
    cases g:wellB l with
    | false=>rfl
    | true=>rw [hE] at hw;have:=(hw.2 g).2;cases this)
   have hb:((-1:Int) == (l.length:Int))=false:=by rw [beq_eq_false_iff_ne];omega
   clear hw
   show _
   simp only [endI]
   go_wp2_with fail
   exact HQ.out _ HW.out
  | some x =>
   by_cases hx:x=l.length
   ·have HW:RowKit.Hid (wellB l=true):=Hd (hw.1 ⟨h0,by rw [hE,hx]⟩)
    have hb:((x:Int) == (l.length:Int))=true:=by rw [beq_iff_eq];omega
    clear hw hE
    simp only [endI]
    generalize l.length=ll at *
    go_wp2_with fail
    exact HQ.out _ HW.out
   ·have HW:RowKit.Hid (wellB l=false):=Hd (by
     cases g:wellB l with
     | false=>rfl
     | true=>rw [hE] at hw;have:=(hw.2 g).2;cases this;exact absurd rfl hx)
    have hb:((x:Int) == (l.length:Int))=false:=by rw [beq_eq_false_iff_ne];omega
    clear hw hE
    simp only [endI]
    go_wp2_with fail
    exact HQ.out _ HW.out
 ·have h0':¬ (0:Int)<l.length:=by omega
  have HW:RowKit.Hid (wellB l=false):=Hd (by
   cases g:wellB l with
   | false=>rfl
   | true=>exact absurd (hw.2 g).1 h0)
  clear hw
  go_enter Tryz.func33,Tryz.ntmps33
  go_wp2_with fail
  exact HQ.out _ HW.out
def treesV (l:List Prt) (m j:Nat):Int:=match rowsB (l.drop j) with
 | some ts=>((m+ts.length:Nat):Int)
 | none=>-1
theorem treesV_start (l:List Prt):treesV l 0 0=treesZ l:=by
 unfold treesV treesZ
 rw [List.drop_zero]
 cases rowsB l with
 | none=>rfl
 | some ts=>simp
theorem treesV_end (l:List Prt) (m j:Nat) (h:l.length≤j):treesV l m j=m:=by
 unfold treesV
 rw [List.drop_of_length_le h,rowsB_nil];simp
theorem trees_step (l:List Prt) (j:Nat) (hj:j<l.length):(endR l.length (l.drop j) 1 j=none∧∀ m,treesV l m j=-1)∨∃ e,endR l.length (l.drop j) 1 j=some e∧j<e∧e≤l.length∧∀ m,treesV l m j=treesV l (m+1) e:=by
 cases hr:rowsB (l.drop j) with
 | some ts =>
  have hs:=rowsB_sum hr
  rw [List.length_drop] at hs
  match ts with
  | []=>simp at hs;omega
  | t::ts =>
   have ht:=hs.2.2 t (by simp)
   have hsum:=hs.1
   rw [List.sum_cons] at hsum
   refine Or.inr ⟨j+t,?_,by omega,by omega,fun m=>?_⟩
   ·rw [endR_rows l.length hr (by rw [List.length_drop];omega),if_pos (by simp)]
    simp
   ·have hk:=rowsB_skip 1 hr (by simp)
    simp only [List.take_succ_cons,List.take_zero,List.sum_cons,List.sum_nil,Nat.add_zero,List.drop_succ_cons,List.drop_zero,List.drop_drop] at hk
    unfold treesV
    rw [hr,hk]
    simp only [List.length_cons]
    congr 1;omega
 | none =>
  cases he:endR l.length (l.drop j) 1 j with
  | none=>exact Or.inl ⟨rfl,fun m=>by unfold treesV;rw [hr]⟩
  | some e =>
   have hle2:=endR_le _ _ _ _ _ he
   rw [List.length_drop] at hle2
   obtain ⟨us,u1,u2⟩:=rows_of_endR _ _ _ _ _ he
   have hue:=(rowsB_sum u1).2.1
   rw [List.length_take,List.length_drop,u2] at hue
   refine Or.inr ⟨e,rfl,by omega,by omega,fun m=>?_⟩
   have hd:rowsB (l.drop e)=none:=by
    cases hd:rowsB (l.drop e) with
    | none=>rfl
    | some ts =>
     exfalso
     have h2:rowsB ((l.drop j).drop (e-j))=some ts:=by rw [List.drop_drop,show j+(e-j)=e by omega];exact hd
     have:=rowsB_app u1 h2
     rw [List.take_append_drop,hr] at this
     cases this
   unfold treesV
   rw [hr,hd]
def treesRel (l:List Prt) (R:Int) (w:World) (n i:Value) (wr:World):Prop :=
 ∃ m j:Nat,n=.int .i64 (m:Int)∧i=.int .i64 (j:Int)∧j≤l.length∧m≤j∧treesV l m j=R∧wr=w
set_option maxRecDepth 100000 in
set_option maxHeartbeats 4000000 in
theorem ref_Trees11 (l:List Prt) (hl:l.length≤1000000000) (v:Value) (w:World) (hr:PartRow w v l) :
  Calls Tryz.prog 25 #[v] w fun e w'=>e=.returned (.int .i64 (treesZ l))∧w=w':=by
 have HQ:RowKit.Hid (∀ x,treesZ l=x→(fun (e:Ending) w'=>e=.returned (.int .i64 (treesZ l))∧w=w') (.returned (.int .i64 x)) w):=Hd fun x h=>⟨by rw [h],rfl⟩
 generalize (fun (e:Ending) w'=>e=.returned (.int .i64 (treesZ l))∧w=w')=Q at *
 have hst:=treesV_start l
 generalize hRR:treesZ l=R at *
 have HRR:=Hd hst
 have CE:=Hd (fun i hi=>ref_End11 l hl v i hi w hr)
 obtain ⟨va,vcap,rfl,hvc⟩:=hr.slice
 clear hr hst hRR
 go_enter Tryz.func25,Tryz.ntmps25
 go_wp2_with fail
 go_loopw [3,4] (fun n i wr=>treesRel l R w n i wr) (fun _ i _=>l.length-(intOf i).toNat)
 case atStart=>exact ⟨0,0,rfl,rfl,Nat.zero_le _,Nat.le_refl _,HRR.out,rfl⟩
 case round =>
  obtain ⟨m,j,rfl,rfl,hj,hm,hE,rfl⟩:=hrel
  have HE:=Hd hE
  clear hE
  by_cases hlt:j<l.length
  ·have hlt':(j:Int)<l.length:=by omega
   have C1:=CE.out j hj
   rcases trees_step l j hlt with ⟨h1,h2⟩ | ⟨e,h1,h2,h3,h4⟩
   ·rw [h1] at C1
    have C1:=Hd C1
    have HF:=Hd (show R=-1 by rw [← HE.out,h2])
    clear h1 h2
    go_wp2_with fail
    refine C1.out.mono ?_
    rintro e w1 ⟨rfl,rfl⟩
    simp only [endI]
    go_wp2_with fail
    exact HQ.out _ HF.out
   ·rw [h1] at C1
    have C1:=Hd C1
    have he0:¬ (e:Int)<0:=by omega
    have hwm:IntKind.i64.wrap ((m:Int)+1)=(m:Int)+1:=by rw [IntKind.wrap_i64];omega
    have HRL:RowKit.Hid (treesRel l R wr (.int .i64 ((m+1:Nat):Int)) (.int .i64 (e:Int)) wr):=Hd ⟨m+1,e,rfl,rfl,h3,by omega,by rw [← h4];exact HE.out,rfl⟩
    have HML:RowKit.Hid (l.length-e<l.length-j):=Hd (by omega)
    clear h1 h2 h3 h4
    go_wp2_with fail
    refine C1.out.mono ?_
    rintro e' w1 ⟨rfl,rfl⟩
    simp only [endI]
    go_wp2_with fail
    refine ⟨?_,(by have:=HML.out;simp [intOf];try omega)⟩
    first
     | exact HRL.out
     | (repeat apply Exists.intro
        refine ⟨?_,rfl⟩
        exact HRL.out)
  ·have hlt':¬ (j:Int)<l.length:=by omega
   have HF:=Hd (show R=(m:Int) by rw [← HE.out,treesV_end l m j (by omega)])
   go_wp2_with fail
   exact HQ.out _ HF.out
end Go.Proofs.YtmklemelgdilkaaGreatDoor
namespace Go.Proofs.YtmklemelgdilkaaGreatDoor
set_option linter.all false
open Go.RowKit
set_option maxRecDepth 100000 in
set_option maxHeartbeats 4000000 in
theorem ref_Up11 (l:List Prt) (hl:l.length≤1000000000) (us:List Nat) (hus:rowsB l=some us) (v:Value) (i:Nat) (hi:i<l.length) (w:World) (hr:PartRow w v l) :
  Calls Tryz.prog 26 #[v,.int .i64 (i:Int)] w fun e w'=>e=.returned (.int .i64 (upI l i i))∧w=w':=by
 have HQ:RowKit.Hid (∀ x,upI l i i=x→(fun (e:Ending) w'=>e=.returned (.int .i64 (upI l i i))∧w=w') (.returned (.int .i64 x)) w):=Hd fun x h=>⟨by rw [h],rfl⟩
 generalize (fun (e:Ending) w'=>e=.returned (.int .i64 (upI l i i))∧w=w')=Q at *
 have HR:=Hd hr
 obtain ⟨va,vcap,rfl,hvc⟩:=hr.slice
 clear hr
 have HCE:=Hd (fun k (hk:k<l.length)=>show Calls Tryz.prog 27 #[.slice va l.length vcap,.int .i64 (k:Int)] w fun e w'=>e=.returned (.int .i64 (endB l k:Int))∧w=w' by
  have:=ref_End11 l hl _ k (by omega) w HR.out
  rw [endR_end hus hk] at this
  exact this)
 have HR0:RowKit.Hid (upI l i i=upI l i i):=Hd rfl
 generalize hRR:upI l i i=R at *
 have HRR:=Hd hRR
 clear hRR HR0
 have hwi:IntKind.i64.wrap ((i:Int)-1)=(i:Int)-1:=by rw [IntKind.wrap_i64];omega
 go_enter Tryz.func26,Tryz.ntmps26
 go_wp2_with fail
 go_loopw [5] (fun u wr=>aboveRel l i R w u wr) (fun u _=>(intOf u+1).toNat)
 case atStart=>exact ⟨i,rfl,Nat.le_refl _,HRR.out,rfl⟩
 case round =>
  obtain ⟨k,rfl,hk,hU,rfl⟩:=hrel
  by_cases hk0:0<k
  ·obtain ⟨j,rfl⟩:∃ j,k=j+1:=⟨k-1,by omega⟩
   rw [show (((j+1:Nat):Int)-1)=(j:Int) by omega]
   have C1:=Hd (HCE.out j (by omega))
   have hj0:(0:Int)≤j:=by omega
   have hwj:IntKind.i64.wrap ((j:Int)-1)=(j:Int)-1:=by rw [IntKind.wrap_i64];omega
   rw [upI] at hU
   generalize endB l j=ee at *
   by_cases hle:i<ee
   ·rw [if_pos hle] at hU
    have HF:=Hd hU
    have hle':(i:Int)<ee:=by omega
    clear hU
    go_wp2_with fail
    refine C1.out.mono ?_
    rintro e w2 ⟨rfl,rfl⟩
    go_wp2_with fail
    exact HQ.out _ HF.out.symm
   ·rw [if_neg hle] at hU
    have HRL:RowKit.Hid (aboveRel l i R wr (.int .i64 ((j:Int)-1)) wr):=Hd ⟨j,rfl,by omega,hU,rfl⟩
    have hle':¬ (i:Int)<ee:=by omega
    clear hU
    go_wp2_with fail
    refine C1.out.mono ?_
    rintro e w2 ⟨rfl,rfl⟩
    go_wp2_with fail
    refine ⟨?_,(by simp only [intOf];omega)⟩
    first
     | exact HRL.out
     | (repeat apply Exists.intro
        refine ⟨?_,rfl⟩
        exact HRL.out)
  ·obtain rfl:k=0:=by omega
   rw [show (((0:Nat):Int)-1)=-1 by rfl]
   rw [upI] at hU
   have HF:=Hd hU
   clear hU
   go_wp2_with fail
   exact HQ.out _ HF.out.symm
end Go.Proofs.YtmklemelgdilkaaGreatDoor
namespace Go.Proofs.YtmklemelgdilkaaGreatDoor
set_option linter.all false
open Go.RowKit

theorem elem_part:Tryz.prog.underlying 23=some (.slice (Tryz.prog.elem 23)):=by kernel_rfl
theorem size_part_run (w:World):(sizeOf (Tryz.prog.elem 23)).run Tryz.prog w=.ok 3 w:=by
 have h:(Tryz.prog.info? (Tryz.prog.elem 23)).map (·.size)=some 3:=by kernel_rfl
 cases hq:Tryz.prog.info? (Tryz.prog.elem 23) with
 | none=>rw [hq] at h;cases h
 | some i =>
  rw [hq] at h
  simp only [Option.map_some,Option.some.injEq] at h
  simp [sizeOf,typeInfo,hq,h]
theorem slice_fromP (g off n c lo:Nat) (hlo:lo≤n):∃ p:Option Addr,(∀ w,(Instr.slice 23 (.slice (some ⟨g,off,none⟩) n c) (some (.int .i64 (lo:Int))) none none).run Tryz.prog w=.ok (.slice p (n-lo) (c-lo)) w)∧(lo<c→p=some ⟨g,off+lo*3,none⟩):=by
 refine ⟨if c=lo then some ⟨g,off,none⟩ else some ⟨g,off+lo*3,none⟩,fun w=>?_,fun h=>if_neg (by omega)⟩
 rw [run_slice_l w _ _ _ _ elem_part .i64 (lo:Int) (by omega) (by omega),size_part_run]
 simp only [Result.andThen,sliced,Int.toNat_natCast]
 by_cases h:c=lo
 ·rw [if_pos h,if_pos h]
 ·rw [if_neg h,if_neg h];simp [Addr.add]
end Go.Proofs.YtmklemelgdilkaaGreatDoor
