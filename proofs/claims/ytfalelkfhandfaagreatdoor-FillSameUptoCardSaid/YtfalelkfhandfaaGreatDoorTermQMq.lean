/- Layer 11 in plain Lean: ends, parts above and kids of a list that is well. -/
import Derived.Test.YtfalelkfhandfaaGreatDoorPackMq
import Derived.Test.YtfalelkfhandfaaGreatDoorCoreMq
import Derived.Test.YtfalelkfhandfaaGreatDoorQuotedPMq
import Derived.Deep.QuietTactic
import Derived.BigQuiet
namespace Go.Proofs.YtfalelkfhandfaaGreatDoor
set_option linter.all false

theorem zJc {l:List Prt} {us:List Nat} (h:zF l=some us) {i:Nat} (hi:i<l.length):∃ t ts,zF (l.drop i)=some (t::ts)∧0<t∧zA l i=i+t∧i+t≤l.length:=by
 obtain ⟨vs,hv⟩:=jW h i
 have hs:=yO hv
 rw [List.length_drop] at hs
 match vs with
 | []=>simp at hs;omega
 | t::ts =>
  have hp:=hs.2.2 t (by simp)
  have h1:=hs.1
  rw [List.sum_cons] at h1
  exact ⟨t,ts,hv,hp,by unfold zA;rw [xX hv],by omega⟩
theorem zUk {l:List Prt} {us:List Nat} (h:zF l=some us) {i:Nat} (hi:i<l.length):endR l.length (l.drop i) 1 i=some (zA l i):=by
 obtain ⟨t,ts,h1,h2,h3,h4⟩:=zJc h hi
 rw [zHq l.length h1 (by rw [List.length_drop];omega),if_pos (by simp),h3]
 simp
theorem zJ {l:List Prt} {us:List Nat} (h:zF l=some us) {i:Nat} (hi:i<l.length):i<zA l i∧zA l i≤l.length:=by
 obtain ⟨t,ts,h1,h2,h3,h4⟩:=zJc h hi
 omega
theorem zI {l:List Prt} (h:zZ l=true):zF l=some [l.length]:=kJ.1 h
theorem yD {l:List Prt} (h:zZ l=true):0<l.length∧zA l 0=l.length:=by
 have h1:=zI h
 have:=(yO h1).2.2 l.length (by simp)
 refine ⟨this,?_⟩
 unfold zA
 rw [List.drop_zero,xX h1];omega
def upI (l:List Prt) (i:Nat):Nat→Int
 | 0=>-1
 | k+1=>if i<zA l k then (k:Int) else upI l i k
theorem zNw {l:List Prt} (hw:zZ l=true) {i:Nat} (hi:i<l.length):∀ k,0<k→0≤upI l i k
 | 1,_=>by
  rw [upI,if_pos (by rw [(yD hw).2];exact hi)];omega
 | k+2,_=>by
  rw [upI]
  split
  ·omega
  ·exact zNw hw hi (k+1) (by omega)

def kidsB (l:List Prt) (i:Nat):List Nat:=match zF (l.drop (i+1)),l[i]? with
 | some ts,some p=>(starts (i+1) ts).take p.2.1.toNat
 | _,_=>[]
theorem zAt {l:List Prt} {us:List Nat} (h:zF l=some us) {i:Nat} (hi:i<l.length) :
  ∃ ts q,zF (l.drop (i+1))=some ts∧(l[i]).2.1=((q:Nat):Int)∧q≤ts.length∧zA l i=i+1+(ts.take q).sum∧kidsB l i=(starts (i+1) ts).take q:=by
 obtain ⟨vs,hv⟩:=jW h i
 rw [List.drop_eq_getElem_cons hi] at hv
 obtain ⟨ts,h1,h2,h3,h4⟩:=jB hv
 refine ⟨ts,(l[i]).2.1.toNat,h1,by omega,by omega,?_,?_⟩
 ·unfold zA
  rw [List.drop_eq_getElem_cons hi]
  subst h4
  rw [xX hv];omega
 ·unfold kidsB
  rw [h1,List.getElem?_eq_getElem hi]
theorem gL {l:List Prt} {us:List Nat} (h:zF l=some us) {i:Nat} {ts:List Nat} {q n:Nat} (hts:zF (l.drop (i+1))=some ts) (hq:q≤ts.length) (hn:n<q) :
  i+1+(ts.take n).sum<l.length∧zA l (i+1+(ts.take n).sum)=i+1+(ts.take (n+1)).sum∧(starts (i+1) ts).take (n+1)=(starts (i+1) ts).take n++[i+1+(ts.take n).sum]∧(ts.take n).sum<(ts.take q).sum∧(ts.take n).sum<(ts.take (n+1)).sum∧(ts.take (n+1)).sum≤(ts.take q).sum:=by
 have hk:=gY n hts (by omega)
 rw [List.drop_drop] at hk
 have hd:ts.drop n=ts[n]::ts.drop (n+1):=List.drop_eq_getElem_cons (by omega)
 have hsum:(ts.take (n+1)).sum=(ts.take n).sum+ts[n]:=by rw [List.take_succ_eq_append_getElem (by omega),List.sum_append];simp
 have hpos:=(yO hts).2.2 ts[n] (List.getElem_mem (by omega))
 have hh:=xX (hk.trans (congrArg some hd))
 have h1:=(yO hk).1
 rw [hd,List.sum_cons,List.length_drop] at h1
 refine ⟨by omega,by unfold zA;rw [hh,hsum];omega,?_,?_⟩
 ·have hz:=xG ts (i+1)
  rw [List.take_succ_eq_append_getElem (by omega)]
  have:=gZ ts (i+1) n (by omega)
  rw [List.getD_eq_getElem?_getD,List.getElem?_eq_getElem (by omega)] at this
  simp only [Option.getD_some] at this
  rw [this]
 refine ⟨?_,by omega,?_⟩
 ·have:=kI ts (n+1) (q-(n+1))
  rw [show n+1+(q-(n+1))=q by omega] at this
  omega
 ·have:=kI ts (n+1) (q-(n+1))
  rw [show n+1+(q-(n+1))=q by omega] at this
  omega
end Go.Proofs.YtfalelkfhandfaaGreatDoor
namespace Go.Proofs.YtfalelkfhandfaaGreatDoor
set_option linter.all false
open Go.RowKit

theorem zHl:Tryz.prog.underlying 23=some (.slice (Tryz.prog.elem 23)):=by kernel_rfl
theorem zAd (w:World):(sizeOf (Tryz.prog.elem 23)).run Tryz.prog w=.ok 3 w:=by
 have h:(Tryz.prog.info? (Tryz.prog.elem 23)).map (·.size)=some 3:=by kernel_rfl
 cases hq:Tryz.prog.info? (Tryz.prog.elem 23) with
 | none=>rw [hq] at h;cases h
 | some i =>
  rw [hq] at h
  simp only [Option.map_some,Option.some.injEq] at h
  simp [sizeOf,typeInfo,hq,h]
theorem zLp (g off n c lo:Nat) (hlo:lo≤n):∃ p:Option Addr,(∀ w,(Instr.slice 23 (.slice (some ⟨g,off,none⟩) n c) (some (.int .i64 (lo:Int))) none none).run Tryz.prog w=.ok (.slice p (n-lo) (c-lo)) w)∧(lo<c→p=some ⟨g,off+lo*3,none⟩):=by
 refine ⟨if c=lo then some ⟨g,off,none⟩ else some ⟨g,off+lo*3,none⟩,fun w=>?_,fun h=>if_neg (by omega)⟩
 rw [run_slice_l w _ _ _ _ zHl .i64 (lo:Int) (by omega) (by omega),zAd]
 simp only [Result.andThen,sliced,Int.toNat_natCast]
 by_cases h:c=lo
 ·rw [if_pos h,if_pos h]
 ·rw [if_neg h,if_neg h];simp [Addr.add]
end Go.Proofs.YtfalelkfhandfaaGreatDoor
namespace Go.Proofs.YtfalelkfhandfaaGreatDoor
set_option linter.all false
open Go.RowKit

theorem gX {w w':World} {a:Option Addr} {n cap:Nat} {p:List Int} (h:zK w (.slice a n cap) .i64 p) (hb:Below w.heap.size w w') (hp:0<p.length) :
  ∃ b off,a=some ⟨b,off,none⟩∧n=p.length∧p.length≤cap∧∀ j x,p[j]?=some x→w'.cell? ⟨b,off+j,none⟩=some (.int .i64 x):=by
 obtain ⟨a',cap',hv,hc,h2⟩:=(h.below hb).open'
 simp only [Value.slice.injEq] at hv
 obtain ⟨rfl,rfl,rfl⟩:=hv
 obtain ⟨b,off,ha,_,hcell⟩:=h2 hp
 refine ⟨b,off,ha,rfl,hc,fun j x hx=>?_⟩
 obtain ⟨hj,rfl⟩:=List.getElem?_eq_some_iff.1 hx
 exact hcell j hj
end Go.Proofs.YtfalelkfhandfaaGreatDoor
namespace Go.Proofs.YtfalelkfhandfaaGreatDoor
set_option maxRecDepth 100000
set_option maxHeartbeats 32000000
set_option linter.all false
open Go.RowKit

def intsRel (a b:List Int) (w:World) (i:Value) (wr:World):Prop:=∃ k:Nat,i=.int .i64 (k:Int)∧k≤a.length∧a.take k=b.take k∧Below w.heap.size w wr
theorem zSm (v1 v2:Value) (a b:List Int) (hla:a.length≤1000000000) (hlb2:b.length≤1000000000) (w:World) (hr1:zK w v1 .i64 a) (hr2:zK w v2 .i64 b) :
  Calls Tryz.prog 10 #[v1,v2] w fun e w'=>e=.returned (.bool (decide (a=b)))∧Below w.heap.size w w':=by
 have HQ:Hid (∀ x w',decide (a=b)=x→Below w.heap.size w w'→(fun (e:Ending) w'=>e=.returned (.bool (decide (a=b)))∧Below w.heap.size w w') (.returned (.bool x)) w'):=Hd fun x w' h h2=>⟨by rw [h],h2⟩
 generalize (fun (e:Ending) w'=>e=.returned (.bool (decide (a=b)))∧Below w.heap.size w w')=Q at *
 have HR1:=Hd hr1
 have HR2:=Hd hr2
 obtain ⟨a1,cap1,rfl,hcap1,_⟩:=hr1.open'
 obtain ⟨a2,cap2,rfl,hcap2,_⟩:=hr2.open'
 clear hr1 hr2
 go_enter Tryz.func10,Tryz.ntmps10
 by_cases hl:a.length=b.length
 ·have hlb:((a.length:Int) == (b.length:Int))=true:=by rw [beq_iff_eq];omega
  have hlc:((a.length:Int) != (b.length:Int))=false:=by rw [bne_eq_false_iff_eq];omega
  have hld:(a.length != b.length)=false:=by rw [bne_eq_false_iff_eq];exact hl
  have HL:=Hd hl
  clear hl
  go_wp2_with fail
  go_loopw [5] (fun i wr=>intsRel a b w i wr) (fun i _=>a.length-(intOf i).toNat)
  case atStart=>exact ⟨0,rfl,Nat.zero_le _,rfl,Below.refl _ _⟩
  case round =>
   obtain ⟨k,rfl,hk,htk,hb⟩:=hrel
   have HB:=Hd hb
   have HTK:=Hd htk
   clear hb htk
   by_cases hlt:k<a.length
   ·have hlt':(k:Int)<a.length:=by omega
    obtain ⟨_,_,hva,_,ha2⟩:=HR1.out.open'
    obtain ⟨_,_,hvb,_,hb2⟩:=HR2.out.open'
    simp only [Value.slice.injEq] at hva hvb
    obtain ⟨rfl,_,rfl⟩:=hva
    obtain ⟨rfl,_,rfl⟩:=hvb
    obtain ⟨b1,o1,rfl,hb1,hc1⟩:=ha2 (by omega)
    obtain ⟨b2,o2,rfl,hb2',hc2⟩:=hb2 (by have:=HL.out;omega)
    have hkbb:k<b.length:=by have:=HL.out;omega
    have d0:wr.cell? ⟨b1,o1+k,none⟩=some (.int .i64 a[k]):=by rw [HB.out.cell (p:=⟨b1,o1+k,none⟩) hb1];exact hc1 k hlt
    have d1:wr.cell? ⟨b2,o2+k,none⟩=some (.int .i64 b[k]):=by rw [HB.out.cell (p:=⟨b2,o2+k,none⟩) hb2'];exact hc2 k hkbb
    have hk0:(0:Int)≤k:=by omega
    have hlt2:(k:Int)<b.length:=by omega
    have hkc1:(k:Int)<cap1:=by omega
    have hkc2:(k:Int)<cap2:=by omega
    have hwk:IntKind.i64.wrap ((k:Int)+1)=((k+1:Nat):Int):=wI (by omega)
    have HK1:Hid (k+1≤a.length):=Hd hlt
    have HML:Hid (a.length-(k+1)<a.length-k):=Hd (by omega)
    have hkb:k<b.length:=by have:=HL.out;omega
    have HX:=Hd (fun (h:a[k]=b[k])=>show a.take (k+1)=b.take (k+1) by
     rw [List.take_succ_eq_append_getElem hlt,List.take_succ_eq_append_getElem hkb,HTK.out];exact congrArg (fun z=>List.take k b++[z]) h)
    have HY:=Hd (fun (h:a[k]≠b[k])=>show decide (a=b)=false from decide_eq_false (fun e=>h (by subst e;rfl)))
    clear hc1 hc2 ha2 hb2
    generalize a[k]=x at *
    generalize b[k]=y at *
    have hE:x=y∨x≠y:=by omega
    rcases hE with hE | hE
    ·have HTK1:=Hd (HX.out hE)
     have hEb:(x == y)=true:=by rw [beq_iff_eq];exact hE
     have hEc:(x != y)=false:=by rw [bne_eq_false_iff_eq];exact hE
     subst hE
     go_wp2_with fail
     go_quiet (fail)
     have HB2:=Hd (bdrewN HB.out nq)
     go_wp2_with fail
     have HR:Hid (intsRel a b w (.int .i64 ((k+1:Nat):Int)) (wr.drewN nq)):=Hd ⟨k+1,rfl,HK1.out,HTK1.out,HB2.out⟩
     refine ⟨?_,(by have:=HML.out;simp [intOf];try omega)⟩
     first
      | exact HR.out
      | (repeat apply Exists.intro
         refine ⟨?_,rfl⟩
         exact HR.out)
    ·have HF:=Hd (HY.out hE)
     have hEb:(x == y)=false:=by rw [beq_eq_false_iff_ne];exact hE
     have hEc:(x != y)=true:=by rw [bne_iff_ne];exact hE
     clear hE
     go_wp2_with fail
     go_quiet (fail)
     have HB2:=Hd (bdrewN HB.out nq)
     go_wp2_with fail
     exact HQ.out _ _ HF.out HB2.out
   ·have hlt':¬ (k:Int)<a.length:=by omega
    have HF:Hid (decide (a=b)=true):=Hd (decide_eq_true (by
     have h:=HTK.out
     have hl:=HL.out
     rw [List.take_of_length_le (by omega),List.take_of_length_le (by omega)] at h
     exact h))
    go_wp2_with fail
    exact HQ.out _ _ HF.out HB.out
 ·have hlb:((a.length:Int) == (b.length:Int))=false:=by rw [beq_eq_false_iff_ne];omega
  have hlc:((a.length:Int) != (b.length:Int))=true:=by rw [bne_iff_ne];omega
  have hld:(a.length != b.length)=true:=by rw [bne_iff_ne];exact hl
  have HF:Hid (decide (a=b)=false):=Hd (decide_eq_false (fun e=>hl (by rw [e])))
  go_wp2_with fail
  exact HQ.out _ _ HF.out (Below.refl _ _)
end Go.Proofs.YtfalelkfhandfaaGreatDoor
