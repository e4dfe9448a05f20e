/- emendref04.Ints (cut out of XLaw09, for seats without layer 9). -/
import Derived.Test.YtfalelkfhandfaaGreatDoorPackMs
import Derived.Test.YtfalelkfhandfaaGreatDoorCoreMs
import Derived.Test.YtfalelkfhandfaaGreatDoorTermMs
import Derived.Test.YtfalelkfhandfaaGreatDoorQuotedMs
import Derived.Deep.QuietTactic
import Derived.BigQuiet
namespace Go.Proofs.YtfalelkfhandfaaGreatDoor
set_option maxRecDepth 100000
set_option maxHeartbeats 32000000
set_option linter.all false
open Go.RowKit

def intsRel (a b:List Int) (w:World) (i:Value) (wr:World):Prop:=∃ k:Nat,i=.int .i64 (k:Int)∧k≤a.length∧a.take k=b.take k∧Below w.heap.size w wr
theorem zNh (v1 v2:Value) (a b:List Int) (hla:a.length≤1000000000) (hlb2:b.length≤1000000000) (w:World) (hr1:zI w v1 .i64 a) (hr2:zI w v2 .i64 b) :
  Calls Tryz.prog 10 #[v1,v2] w fun e w'=>e=.returned (.bool (decide (a=b)))∧Below w.heap.size w w':=by
 have HQ:Hid (∀ x w',decide (a=b)=x→Below w.heap.size w w'→(fun (e:Ending) w'=>e=.returned (.bool (decide (a=b)))∧Below w.heap.size w w') (.returned (.bool x)) w'):=Hd fun x w' h h2=>⟨by rw [h],h2⟩
 generalize (fun (e:Ending) w'=>e=.returned (.bool (decide (a=b)))∧Below w.heap.size w w')=Q at *
 have HR1:=Hd hr1
 have HR2:=Hd hr2
 obtain ⟨a1,cap1,rfl,hcap1,_⟩:=hr1.open'
 obtain ⟨a2,cap2,rfl,hcap2,_⟩:=hr2.open'
 clear hr1 hr2
 go_enter Tryz.func10,Tryz.ntmps10
 by_cases hl:a.length=b.length
 ·have hlb:((a.length:Int) == (b.length:Int))=true:=by rw [beq_iff_eq];omega
  have hlc:((a.length:Int) != (b.length:Int))=false:=by rw [bne_eq_false_iff_eq];omega
  have hld:(a.length != b.length)=false:=by rw [bne_eq_false_iff_eq];exact hl
  have HL:=Hd hl
  clear hl
  go_wp2_with fail
  go_loopw [5] (fun i wr=>intsRel a b w i wr) (fun i _=>a.length-(intOf i).toNat)
  case atStart=>exact ⟨0,rfl,Nat.zero_le _,rfl,Below.refl _ _⟩
  case round =>
   obtain ⟨k,rfl,hk,htk,hb⟩:=hrel
   have HB:=Hd hb
   have HTK:=Hd htk
   clear hb htk
   by_cases hlt:k<a.length
   ·have hlt':(k:Int)<a.length:=by omega
    obtain ⟨_,_,hva,_,ha2⟩:=HR1.out.open'
    obtain ⟨_,_,hvb,_,hb2⟩:=HR2.out.open'
    simp only [Value.slice.injEq] at hva hvb
    obtain ⟨rfl,_,rfl⟩:=hva
    obtain ⟨rfl,_,rfl⟩:=hvb
    obtain ⟨b1,o1,rfl,hb1,hc1⟩:=ha2 (by omega)
    obtain ⟨b2,o2,rfl,hb2',hc2⟩:=hb2 (by have:=HL.out;omega)
    have hkbb:k<b.length:=by have:=HL.out;omega
    have d0:wr.cell? ⟨b1,o1+k,none⟩=some (.int .i64 a[k]):=by rw [HB.out.cell (p:=⟨b1,o1+k,none⟩) hb1];exact hc1 k hlt
    have d1:wr.cell? ⟨b2,o2+k,none⟩=some (.int .i64 b[k]):=by rw [HB.out.cell (p:=⟨b2,o2+k,none⟩) hb2'];exact hc2 k hkbb
    have hk0:(0:Int)≤k:=by omega
    have hlt2:(k:Int)<b.length:=by omega
    have hkc1:(k:Int)<cap1:=by omega
    have hkc2:(k:Int)<cap2:=by omega
    have hwk:IntKind.i64.wrap ((k:Int)+1)=((k+1:Nat):Int):=wI (by omega)
    have HK1:Hid (k+1≤a.length):=Hd hlt
    have HML:Hid (a.length-(k+1)<a.length-k):=Hd (by omega)
    have hkb:k<b.length:=by have:=HL.out;omega
    have HX:=Hd (fun (h:a[k]=b[k])=>show a.take (k+1)=b.take (k+1) by
     rw [List.take_succ_eq_append_getElem hlt,List.take_succ_eq_append_getElem hkb,HTK.out];exact congrArg (fun z=>List.take k b++[z]) h)
    have HY:=Hd (fun (h:a[k]≠b[k])=>show decide (a=b)=false from decide_eq_false (fun e=>h (by subst e;rfl)))
    clear hc1 hc2 ha2 hb2
    generalize a[k]=x at *
    generalize b[k]=y at *
    have hE:x=y∨x≠y:=by omega
    rcases hE with hE | hE
    ·have HTK1:=Hd (HX.out hE)
     have hEb:(x == y)=true:=by rw [beq_iff_eq];exact hE
     have hEc:(x != y)=false:=by rw [bne_eq_false_iff_eq];exact hE
     subst hE
     go_wp2_with fail
     go_quiet (fail)
     have HB2:=Hd (bdrewN HB.out nq)
     go_wp2_with fail
     have HR:Hid (intsRel a b w (.int .i64 ((k+1:Nat):Int)) (wr.drewN nq)):=Hd ⟨k+1,rfl,HK1.out,HTK1.out,HB2.out⟩
     refine ⟨?_,(by have:=HML.out;simp [intOf];try omega)⟩
     first
      | exact HR.out
      | (repeat apply Exists.intro
         refine ⟨?_,rfl⟩
         exact HR.out)
    ·have HF:=Hd (HY.out hE)
     have hEb:(x == y)=false:=by rw [beq_eq_false_iff_ne];exact hE
     have hEc:(x != y)=true:=by rw [bne_iff_ne];exact hE
     clear hE
     go_wp2_with fail
     go_quiet (fail)
     have HB2:=Hd (bdrewN HB.out nq)
     go_wp2_with fail
     exact HQ.out _ _ HF.out HB2.out
   ·have hlt':¬ (k:Int)<a.length:=by omega
    have HF:Hid (decide (a=b)=true):=Hd (decide_eq_true (by
     have h:=HTK.out
     have hl:=HL.out
     rw [List.take_of_length_le (by omega),List.take_of_length_le (by omega)] at h
     exact h))
    go_wp2_with fail
    exact HQ.out _ _ HF.out HB.out
 ·have hlb:((a.length:Int) == (b.length:Int))=false:=by rw [beq_eq_false_iff_ne];omega
  have hlc:((a.length:Int) != (b.length:Int))=true:=by rw [bne_iff_ne];omega
  have hld:(a.length != b.length)=true:=by rw [bne_iff_ne];exact hl
  have HF:Hid (decide (a=b)=false):=Hd (decide_eq_false (fun e=>hl (by rw [e])))
  go_wp2_with fail
  exact HQ.out _ _ HF.out (Below.refl _ _)
end Go.Proofs.YtfalelkfhandfaaGreatDoor
