/- Layer 11: which words a kind may have; the program's spelt, walked. -/
import Derived.Test.YtfalelkfhandfaaGreatDoorPackMs
import Derived.Test.YtfalelkfhandfaaGreatDoorCheckPMs
import Derived.Test.YtfalelkfhandfaaGreatDoorClassMs
import Derived.Test.YtfalelkfhandfaaGreatDoorQuoted6Ms
import Derived.Test.YtfalelkfhandfaaGreatDoorNum3Ms
import Derived.Test.YtfalelkfhandfaaGreatDoorShelfQMs
import Derived.Test.YtfalelkfhandfaaGreatDoorTermMs
import Derived.Test.YtfalelkfhandfaaGreatDoorMatchP2Ms
namespace Go.Proofs.YtfalelkfhandfaaGreatDoor
set_option maxRecDepth 100000
set_option maxHeartbeats 32000000
set_option linter.all false
open Go.RowKit

theorem zEw (x:List UInt8):(⟨x.toArray⟩:ByteArray).toList=x:=by rw [ByteArray.toList_eq]
def sptB (k:Nat) (s:ByteArray):Bool :=
 if k=26 then name s else if k=27 then (decide ((value s).2=0) || decide (kindL (zA s)≠0)) else (s.toList.isEmpty&&noneT k) || decide (s.toList∈wordsT k)
theorem zBu {k:Nat} (s:ByteArray) (h1:k≠26) (h2:k≠27):sptB k s=((s.toList.isEmpty&&noneT k) || decide (s.toList∈wordsT k)):=by unfold sptB;rw [if_neg h1,if_neg h2]
theorem zSn {k:Nat} (s:ByteArray) (h:k=3∨k=4∨k=36∨k=37∨k=45∨k=52∨k=53∨k=57):sptB k s=(!s.toList.isEmpty&&(!Lib.contains s.toList [32]&&Lib.contains (wordsP k) (32::(s.toList++[32])))):=by
 have e:wordsP k=jn (wordsT k):=by rcases h with rfl | rfl | rfl | rfl | rfl | rfl | rfl | rfl <;> rfl
 have hn:noneT k=false:=by rcases h with rfl | rfl | rfl | rfl | rfl | rfl | rfl | rfl <;> rfl
 rw [zBu s (by omega) (by omega),hn,Bool.and_false,Bool.false_or,e,← zMv (zMw k)]
 congr 1
 cases s.toList with
 | nil=>rfl
 | cons a l=>simp
theorem zVe {k:Nat} (s:ByteArray) (h:¬ (k=26∨k=27∨k=5∨k=7∨k=15∨k=34∨k=66)) (hw:wordsP k=[]):sptB k s=s.toList.isEmpty:=by
 have hk:¬ (k=3∨k=4)∧k≠36∧k≠37∧k≠45∧k≠52∧k≠53∧k≠57:=by
  unfold wordsP at hw
  have ne:∀ ws,jn ws≠[]:=fun ws=>by obtain ⟨t,ht⟩:=zKz ws;rw [ht];simp
  by_cases h1:k=3∨k=4
  ·rw [if_pos h1] at hw;exact absurd hw (ne _)
  rw [if_neg h1] at hw
  by_cases h2:k=36
  ·rw [if_pos h2] at hw;exact absurd hw (ne _)
  rw [if_neg h2] at hw
  by_cases h3:k=37
  ·rw [if_pos h3] at hw;exact absurd hw (ne _)
  rw [if_neg h3] at hw
  by_cases h4:k=45
  ·rw [if_pos h4] at hw;exact absurd hw (ne _)
  rw [if_neg h4] at hw
  by_cases h5:k=52
  ·rw [if_pos h5] at hw;exact absurd hw (ne _)
  rw [if_neg h5] at hw
  by_cases h6:k=53
  ·rw [if_pos h6] at hw;exact absurd hw (ne _)
  rw [if_neg h6] at hw
  by_cases h7:k=57
  ·rw [if_pos h7] at hw;exact absurd hw (ne _)
  exact ⟨h1,h2,h3,h4,h5,h6,h7⟩
 rw [zBu s (by omega) (by omega)]
 have hn:noneT k=true:=by unfold noneT;simp;omega
 have ht:wordsT k=[]:=by
  unfold wordsT
  rw [if_neg (by omega),if_neg (by omega),if_neg (by omega),if_neg (by omega),if_neg (by omega),if_neg (by omega),if_neg (by omega),if_neg (by omega),if_neg (by omega),if_neg (by omega),if_neg (by omega)]
 rw [hn,ht];simp
theorem zVf (k:Nat):wordsP k=[]∨((k=3∨k=4∨k=36∨k=37∨k=45∨k=52∨k=53∨k=57)∧wordsP k≠[]):=by
 by_cases h:k=3∨k=4∨k=36∨k=37∨k=45∨k=52∨k=53∨k=57
 ·refine Or.inr ⟨h,?_⟩
  rcases h with rfl | rfl | rfl | rfl | rfl | rfl | rfl | rfl <;> decide
 ·left
  unfold wordsP
  rw [if_neg (by omega),if_neg (by omega),if_neg (by omega),if_neg (by omega),if_neg (by omega),if_neg (by omega),if_neg (by omega)]
theorem zPt (k:Nat) (hk:k<256) (s:ByteArray) (w:World) (hT:Tabs w) (hM:MaxC w) (hs:s.size≤2147483647) :
  Calls Tryz.prog 83 #[.int .u8 (k:Int),.string s] w fun e w'=>e=.returned (.bool (sptB k s))∧Below w.heap.size w w':=by
 have HQ:Hid (∀ x w',sptB k s=x→Below w.heap.size w w'→(fun (e:Ending) w'=>e=.returned (.bool (sptB k s))∧Below w.heap.size w w') (.returned (.bool x)) w'):=Hd fun x w' h hb=>⟨by rw [h],hb⟩
 generalize (fun (e:Ending) w'=>e=.returned (.bool (sptB k s))∧Below w.heap.size w w')=Q at *
 have HM:=Hd hM
 clear hM
 by_cases k26:k=26
 ·have C1:=Hd (jL s w hT)
  have HV:=Hd (show sptB k s=name s by unfold sptB;rw [if_pos k26])
  have f26:((k:Int) == 26)=true:=by rw [beq_iff_eq];omega
  clear k26
  go_enter Tryz.func83,Tryz.ntmps83
  go_wp2_with fail
  refine C1.out.mono ?_
  rintro e w1 ⟨rfl,hb⟩
  generalize name s=x at *
  go_wp2_with fail
  exact HQ.out _ _ HV.out hb
 have f26:((k:Int) == 26)=false:=by rw [beq_eq_false_iff_ne];omega
 by_cases k27:k=27
 ·have C1:=Hd (zLz s w hT HM.out hs)
  have C2:=Hd (fun w=>zNo s hs w)
  have HV:=Hd (show sptB k s=(decide ((value s).2=0) || decide (kindL (zA s)≠0)) by unfold sptB;rw [if_neg k26,if_pos k27])
  have f27:((k:Int) == 27)=true:=by rw [beq_iff_eq];omega
  clear k26 k27
  go_enter Tryz.func83,Tryz.ntmps83
  go_wp2_with fail
  refine C1.out.mono ?_
  intro e w1 h1
  unfold valuePost at h1
  obtain ⟨rfl,hb⟩:=h1
  have HB:=Hd hb
  clear hb
  generalize value s=v at *
  obtain ⟨v1,v2⟩:=v
  generalize kindL (zA s)=q at *
  simp only [] at HV
  by_cases hv:v2=0
  ·have hvb:(v2 == 0)=true:=by rw [beq_iff_eq];exact hv
   have HX:=Hd (show sptB k s=true by rw [HV.out,decide_eq_true hv,Bool.true_or])
   clear hv HV
   go_wp2_with fail
   exact HQ.out _ _ HX.out HB.out
  ·have hvb:(v2 == 0)=false:=by rw [beq_eq_false_iff_ne];exact hv
   have HX:=Hd (show sptB k s=decide (q≠0) by rw [HV.out,decide_eq_false hv,Bool.false_or])
   clear hv HV
   go_wp2_with fail
   refine mB (C2.out _) HB.out fun w2 HB2=>?_
   go_wp2_with fail
   exact HQ.out _ _ (by rw [HX.out,Bool.eq_iff_iff];simp;try omega) HB2.out
 have f27:((k:Int) == 27)=false:=by rw [beq_eq_false_iff_ne];omega
 have HO:=Hd (zBu s k26 k27)
 by_cases kk:k=5∨k=5
 ·have f5:((k:Int) == 5)=true:=by rw [beq_iff_eq];omega
  have HV:=Hd (show sptB k s=(s.toList.isEmpty || (s.toList == [46])) by rw [HO.out,Bool.eq_iff_iff];rcases kk with rfl | rfl <;> simp [noneT,wordsT])
  clear HO kk k26 k27
  by_cases he:s.toList.isEmpty=true
  ·have HX:=Hd (show sptB k s=true by rw [HV.out,he];rfl)
   have he2:s.toList=[]:=by simpa using he
   go_enter Tryz.func83,Tryz.ntmps83
   go_wp2_with fail
   all_goals exact HQ.out _ _ HX.out (Below.refl _ _)
  ·have he1:s.toList.isEmpty=false:=by simpa using he
   have HX:=Hd (show sptB k s=(s.toList == [46]) by rw [HV.out,he1,Bool.false_or])
   clear he
   go_enter Tryz.func83,Tryz.ntmps83
   go_wp2_with fail
   all_goals exact HQ.out _ _ HX.out (Below.refl _ _)
 have k5:k≠5:=by omega
 have f5:((k:Int) == 5)=false:=by rw [beq_eq_false_iff_ne];omega
 clear kk
 by_cases kk:k=7∨k=7
 ·have f7:((k:Int) == 7)=true:=by rw [beq_iff_eq];omega
  have HV:=Hd (show sptB k s=(s.toList.isEmpty || (s.toList == [61])) by rw [HO.out,Bool.eq_iff_iff];rcases kk with rfl | rfl <;> simp [noneT,wordsT])
  clear HO kk k26 k27 k5
  by_cases he:s.toList.isEmpty=true
  ·have HX:=Hd (show sptB k s=true by rw [HV.out,he];rfl)
   have he2:s.toList=[]:=by simpa using he
   go_enter Tryz.func83,Tryz.ntmps83
   go_wp2_with fail
   all_goals exact HQ.out _ _ HX.out (Below.refl _ _)
  ·have he1:s.toList.isEmpty=false:=by simpa using he
   have HX:=Hd (show sptB k s=(s.toList == [61]) by rw [HV.out,he1,Bool.false_or])
   clear he
   go_enter Tryz.func83,Tryz.ntmps83
   go_wp2_with fail
   all_goals exact HQ.out _ _ HX.out (Below.refl _ _)
 have k7:k≠7:=by omega
 have f7:((k:Int) == 7)=false:=by rw [beq_eq_false_iff_ne];omega
 clear kk
 by_cases kk:k=15∨k=15
 ·have f15:((k:Int) == 15)=true:=by rw [beq_iff_eq];omega
  have HV:=Hd (show sptB k s=(s.toList.isEmpty || (s.toList == [46,46,46])) by rw [HO.out,Bool.eq_iff_iff];rcases kk with rfl | rfl <;> simp [noneT,wordsT])
  clear HO kk k26 k27 k5 k7
  by_cases he:s.toList.isEmpty=true
  ·have HX:=Hd (show sptB k s=true by rw [HV.out,he];rfl)
   have he2:s.toList=[]:=by simpa using he
   go_enter Tryz.func83,Tryz.ntmps83
   go_wp2_with fail
   all_goals exact HQ.out _ _ HX.out (Below.refl _ _)
  ·have he1:s.toList.isEmpty=false:=by simpa using he
   have HX:=Hd (show sptB k s=(s.toList == [46,46,46]) by rw [HV.out,he1,Bool.false_or])
   clear he
   go_enter Tryz.func83,Tryz.ntmps83
   go_wp2_with fail
   all_goals exact HQ.out _ _ HX.out (Below.refl _ _)
 have k15:k≠15:=by omega
 have f15:((k:Int) == 15)=false:=by rw [beq_eq_false_iff_ne];omega
 clear kk
 by_cases kk:k=34∨k=34
 ·have f34:((k:Int) == 34)=true:=by rw [beq_iff_eq];omega
  have HV:=Hd (show sptB k s=(s.toList.isEmpty || (s.toList == [46,46,46])) by rw [HO.out,Bool.eq_iff_iff];rcases kk with rfl | rfl <;> simp [noneT,wordsT])
  clear HO kk k26 k27 k5 k7 k15
  by_cases he:s.toList.isEmpty=true
  ·have HX:=Hd (show sptB k s=true by rw [HV.out,he];rfl)
   have he2:s.toList=[]:=by simpa using he
   go_enter Tryz.func83,Tryz.ntmps83
   go_wp2_with fail
   all_goals exact HQ.out _ _ HX.out (Below.refl _ _)
  ·have he1:s.toList.isEmpty=false:=by simpa using he
   have HX:=Hd (show sptB k s=(s.toList == [46,46,46]) by rw [HV.out,he1,Bool.false_or])
   clear he
   go_enter Tryz.func83,Tryz.ntmps83
   go_wp2_with fail
   all_goals exact HQ.out _ _ HX.out (Below.refl _ _)
 have k34:k≠34:=by omega
 have f34:((k:Int) == 34)=false:=by rw [beq_eq_false_iff_ne];omega
 clear kk
 by_cases k66:k=66
 ·have f66:((k:Int) == 66)=true:=by rw [beq_iff_eq];omega
  have HV:=Hd (show sptB k s=(s.toList.isEmpty || ((s.toList == [61]) || (s.toList == [58,61]))) by rw [HO.out,Bool.eq_iff_iff,k66];simp [noneT,wordsT])
  clear HO k66 k26 k27 k5 k7 k15 k34
  by_cases he:s.toList.isEmpty=true
  ·have HX:=Hd (show sptB k s=true by rw [HV.out,he];rfl)
   have he2:s.toList=[]:=by simpa using he
   go_enter Tryz.func83,Tryz.ntmps83
   go_wp2_with fail
   all_goals exact HQ.out _ _ HX.out (Below.refl _ _)
  ·have he1:s.toList.isEmpty=false:=by simpa using he
   clear he
   cases hq:(s.toList == [61]) with
   | true =>
    have HX:=Hd (show sptB k s=true by rw [HV.out,he1,hq];rfl)
    clear HV
    go_enter Tryz.func83,Tryz.ntmps83
    go_wp2_with fail
    all_goals exact HQ.out _ _ HX.out (Below.refl _ _)
   | false =>
    have HX:=Hd (show sptB k s=(s.toList == [58,61]) by rw [HV.out,he1,hq];rfl)
    clear HV
    go_enter Tryz.func83,Tryz.ntmps83
    go_wp2_with fail
    all_goals exact HQ.out _ _ HX.out (Below.refl _ _)
 have f66:((k:Int) == 66)=false:=by rw [beq_eq_false_iff_ne];omega
 have C1:=Hd (zPs k hk w)
 rcases zVf k with hw | ⟨hw,hne⟩
 ·have HX:=Hd (zVe s (by omega) hw)
  rw [hw] at C1
  clear hw HO k66 k26 k27 k5 k7 k15 k34
  go_enter Tryz.func83,Tryz.ntmps83
  go_wp2_with fail
  refine C1.out.mono ?_
  rintro e w1 ⟨rfl,rfl⟩
  go_wp2_with fail
  exact HQ.out _ _ HX.out (Below.refl _ _)
 ·have HV:=Hd (zSn s hw)
  obtain ⟨m,hm,_⟩:=HM.out
  have hAl:((⟨(wordsP k).toArray⟩:ByteArray).toList.isEmpty)=false:=by
   rw [zEw];cases h:wordsP k with
   | nil=>exact absurd h hne
   | cons a l=>rfl
  have hAz:(⟨(wordsP k).toArray⟩:ByteArray).size≤1000:=by
   have:∀ k,k<58→(wordsP k).length≤1000:=by decide
   show (wordsP k).toArray.size≤1000
   simpa using this k (by omega)
  have CB1:=Hd (Tryz.strings_Contains s ⟨#[32]⟩ m w (by omega) hm)
  have CB2:=Hd (Tryz.strings_Contains ⟨(wordsP k).toArray⟩ ((⟨#[32]⟩:ByteArray)++s++⟨#[32]⟩) m w (by omega) hm)
  have hz1:¬ 9223372036854775807<(⟨#[32]⟩:ByteArray).size+s.size:=by show ¬ _<1+_;omega
  have hz2:¬ 9223372036854775807<((⟨#[32]⟩:ByteArray)++s).size+(⟨#[32]⟩:ByteArray).size:=by rw [ByteArray.size_append];show ¬ _<1+_+1;omega
  have hcat:((⟨#[32]⟩:ByteArray)++s++⟨#[32]⟩).data.toList=32::(s.toList++[32]):=by rw [ByteArray.data_append,ByteArray.data_append,ByteArray.toList_eq];simp
  rw [hcat] at CB2
  have e1:(⟨(wordsP k).toArray⟩:ByteArray).data.toList=wordsP k:=by simp
  rw [e1] at CB2
  have e2:s.data.toList=s.toList:=(ByteArray.toList_eq s).symm
  rw [e2,show (⟨#[32]⟩:ByteArray).data.toList=[32] from rfl] at CB1
  clear e1 e2 hcat hm hw hne HO k66 k26 k27 k5 k7 k15 k34 hAz
  generalize (⟨(wordsP k).toArray⟩:ByteArray)=A at *
  generalize Lib.contains s.toList [32]=b1 at *
  generalize Lib.contains (wordsP k) (32::(s.toList++[32]))=b2 at *
  by_cases he:s.toList.isEmpty=true
  ·have he2:s.toList=[]:=by simpa using he
   have HX:=Hd (show sptB k s=false by rw [HV.out,he];rfl)
   go_enter Tryz.func83,Tryz.ntmps83
   go_wp2_with fail
   refine C1.out.mono ?_
   rintro e w1 ⟨rfl,rfl⟩
   go_wp2_with fail
   exact HQ.out _ _ HX.out (Below.refl _ _)
  ·have he1:s.toList.isEmpty=false:=by simpa using he
   clear he
   cases b1 with
   | true =>
    have HX:=Hd (show sptB k s=false by rw [HV.out,he1];rfl)
    go_enter Tryz.func83,Tryz.ntmps83
    go_wp2_with fail
    refine C1.out.mono ?_
    rintro e w1 ⟨rfl,rfl⟩
    go_wp2_with fail
    refine CB1.out.mono ?_
    rintro e w1 ⟨rfl,rfl⟩
    go_wp2_with fail
    exact HQ.out _ _ HX.out (Below.refl _ _)
   | false =>
    have HX:=Hd (show sptB k s=b2 by rw [HV.out,he1];rfl)
    go_enter Tryz.func83,Tryz.ntmps83
    go_wp2_with fail
    refine C1.out.mono ?_
    rintro e w1 ⟨rfl,rfl⟩
    go_wp2_with fail
    refine CB1.out.mono ?_
    rintro e w1 ⟨rfl,rfl⟩
    go_wp2_with fail
    refine CB2.out.mono ?_
    rintro e w1 ⟨rfl,rfl⟩
    go_wp2_with fail
    exact HQ.out _ _ HX.out (Below.refl _ _)
end Go.Proofs.YtfalelkfhandfaaGreatDoor
namespace Go.Proofs.YtfalelkfhandfaaGreatDoor
set_option maxRecDepth 100000
set_option maxHeartbeats 32000000
set_option linter.all false
open Go.RowKit

def partB (p:Prt):Bool:=decide (p.1≤68)&&(decide (((arL p.1).1:Int)≤p.2.1)&&((decide (p.2.1=(arL p.1).1) || (arL p.1).2)&&sptB p.1 p.2.2))
def checkB (l:List Prt):Bool:=zZ l&&l.all partB
def FineP (l:List Prt):Prop:=∀ p∈l,p.1<256∧p.2.2.size≤2147483647
theorem FineP.at {l:List Prt} (h:FineP l) {k:Nat} (hk:k<l.length):(l[k]).1<256∧(l[k]).2.2.size≤2147483647:=h _ (List.getElem_mem hk)
theorem zJf {l:List Prt} {k:Nat} (hk:k<l.length) (h:partB l[k]=false):checkB l=false:=by
 unfold checkB
 have:l.all partB=false:=by rw [List.all_eq_false];exact ⟨l[k],List.getElem_mem hk,by simp [h]⟩
 rw [this,Bool.and_false]
theorem zGh {l:List Prt} (hw:zZ l=true) (h:∀ j (hj:j<l.length),partB l[j]=true):checkB l=true:=by
 unfold checkB
 rw [hw,Bool.true_and,List.all_eq_true]
 intro p hp
 obtain ⟨i,hi,rfl⟩:=List.getElem_of_mem hp
 exact h i hi
def chkRel (l:List Prt) (w:World) (i:Value) (wr:World):Prop:=∃ k:Nat,i=.int .i64 (k:Int)∧k≤l.length∧(∀ j (hj:j<l.length),j<k→partB l[j]=true)∧Below w.heap.size w wr
theorem zMu {l:List Prt} {k:Nat} (hk:k<l.length) (h:partB l[k]=true) (hn:∀ j (hj:j<l.length),j<k→partB l[j]=true):∀ j (hj:j<l.length),j<k+1→partB l[j]=true:=by
 intro j hj hlt
 by_cases e:j=k
 ·subst e;exact h
 ·exact hn j hj (by omega)
theorem zGi (l:List Prt) (hl:l.length≤1000000000) (hf:FineP l) (v:Value) (w:World) (hT:Tabs w) (hM:MaxC w) (hr:zD w v l) :
  Calls Tryz.prog 61 #[v] w fun e w'=>e=.returned (.int .i64 (if checkB l then 0 else 8))∧Below w.heap.size w w':=by
 have HQ:Hid (∀ x w',(if checkB l then (0:Int) else 8)=x→Below w.heap.size w w'→(fun (e:Ending) w'=>e=.returned (.int .i64 (if checkB l then 0 else 8))∧Below w.heap.size w w') (.returned (.int .i64 x)) w'):=Hd fun x w' h hb=>⟨by rw [h],hb⟩
 generalize (fun (e:Ending) w'=>e=.returned (.int .i64 (if checkB l then 0 else 8))∧Below w.heap.size w w')=Q at *
 have HR:=Hd hr
 have HF:=Hd hf
 have HT:=Hd hT
 have HM:=Hd hM
 have C1:=Hd (zEr l hl v w hr)
 obtain ⟨va,vcap,rfl,hvc⟩:=hr.slice
 clear hr hf hT hM
 go_enter Tryz.func61,Tryz.ntmps61
 go_wp2_with fail
 refine C1.out.mono ?_
 rintro e w1 ⟨rfl,hb1⟩
 have HB1:=Hd hb1
 clear hb1 C1
 cases hw:zZ l with
 | false =>
  have HX:=Hd (show (if checkB l then (0:Int) else 8)=8 by unfold checkB;rw [hw];rfl)
  clear hw
  go_wp2_with fail
  exact HQ.out _ _ HX.out HB1.out
 | true =>
  have HW:=Hd hw
  clear hw
  go_wp2_with fail
  go_loopw [12] (fun i wr=>chkRel l w i wr) (fun i _=>l.length-(intOf i).toNat)
  case atStart=>exact ⟨0,rfl,Nat.zero_le _,fun j _ h=>by omega,HB1.out⟩
  case round =>
   obtain ⟨k,rfl,hk,hyes,hb⟩:=hrel
   have HB:=Hd hb
   have HY:=Hd hyes
   clear hb hyes
   by_cases hlt:k<l.length
   ·have hkl:(k:Int)<l.length:=by omega
    obtain ⟨b1,o1,rfl,_,_,_,hc1⟩:=HR.out.at HB.out (show 0<l.length by omega)
    obtain ⟨d0,d1,d2⟩:=hc1 k hlt
    have hk0:(0:Int)≤k:=by omega
    have hkc:(k:Int)<vcap:=by omega
    have hwk:IntKind.i64.wrap ((k:Int)+1)=(k:Int)+1:=wI (by omega)
    obtain ⟨hk256,hsz⟩:=HF.out.at hlt
    have HBAD:=Hd (fun (h:partB l[k]=false)=>show (if checkB l then (0:Int) else 8)=8 by rw [zJf hlt h];rfl)
    have HGOOD:=Hd (fun (h:partB l[k]=true)=>zMu hlt h HY.out)
    have HML:Hid (l.length-(k+1)<l.length-k):=Hd (by omega)
    have HK1:Hid (k+1≤l.length):=Hd hlt
    have hpd:partB l[k]=(decide ((l[k]).1≤68)&&(decide (((arL (l[k]).1).1:Int)≤(l[k]).2.1)&&((decide ((l[k]).2.1=(arL (l[k]).1).1) || (arL (l[k]).1).2)&&sptB (l[k]).1 (l[k]).2.2))):=rfl
    have HPD:=Hd hpd
    clear hc1 hpd
    generalize hpb:partB l[k]=pb at *
    have HPB:=Hd hpb
    clear hpb
    generalize l[k]=x at *
    obtain ⟨xk,xn,xw⟩:=x
    simp only [] at d0 d1 d2 hk256 hsz HPD
    have HPK:=PK.alloc_new wr (xk,xn,xw)
    have p0:=HPK.c0;have p1:=HPK.c1;have p2:=HPK.c2
    have HBA:=Hd (HB.out.alloc HB.out.size (.cells #[.int .u8 (xk:Int),.int .i64 xn,.string xw] 38))
    have HTA:=Hd (HT.out.below HBA.out)
    have HMA:=Hd (HM.out.below HBA.out)
    have CA:=Hd (fun w=>zPr xk hk256 w)
    have CS:=Hd (zPt xk hk256 xw _ HTA.out HMA.out hsz)
    clear HPK HTA HMA hsz
    generalize arL xk=ar at *
    generalize sptB xk xw=sp at *
    obtain ⟨am,ab⟩:=ar
    simp only [] at p0 p1 p2 HPD
    by_cases c1:xk≤68
    ·have c1i:¬ (68:Int)<(xk:Int):=by omega
     by_cases c2:(am:Int)≤xn
     ·have c2i:¬ xn<(am:Int):=by omega
      by_cases c3:xn=(am:Int)
      ·have c3i:¬ (am:Int)<xn:=by omega
       have HP:=Hd (show pb=sp by rw [HPD.out,decide_eq_true c1,decide_eq_true c2,decide_eq_true c3];simp)
       clear c3 c2 c1 HPD
       go_wp2_with fail
       refine (CA.out _).mono ?_
       rintro e w2 ⟨rfl,rfl⟩
       go_wp2_with fail
       refine mB CS.out HBA.out fun w2 HB2=>?_
       cases sp with
       | false =>
        have HX:=Hd (HBAD.out HP.out)
        go_wp2_with fail
        exact HQ.out _ _ HX.out HB2.out
       | true =>
        have HRL:Hid (chkRel l w (.int .i64 ((k+1:Nat):Int)) w2):=Hd ⟨k+1,rfl,HK1.out,HGOOD.out HP.out,HB2.out⟩
        go_wp2_with fail
        refine ⟨?_,(by have:=HML.out;simp [intOf];try omega)⟩
        first
         | exact HRL.out
         | (repeat apply Exists.intro
            refine ⟨?_,rfl⟩
            exact HRL.out)
      ·have c3i:(am:Int)<xn:=by omega
       cases ab with
       | false =>
        have HP:=Hd (show pb=false by rw [HPD.out,decide_eq_false c3];simp)
        have HX:=Hd (HBAD.out HP.out)
        clear c3 c2 c1 HPD
        go_wp2_with fail
        refine (CA.out _).mono ?_
        rintro e w2 ⟨rfl,rfl⟩
        go_wp2_with fail
        exact HQ.out _ _ HX.out HBA.out
       | true =>
        have HP:=Hd (show pb=sp by rw [HPD.out,decide_eq_true c1,decide_eq_true c2];simp)
        clear c3 c2 c1 HPD
        go_wp2_with fail
        refine (CA.out _).mono ?_
        rintro e w2 ⟨rfl,rfl⟩
        go_wp2_with fail
        refine mB CS.out HBA.out fun w2 HB2=>?_
        cases sp with
        | false =>
         have HX:=Hd (HBAD.out HP.out)
         go_wp2_with fail
         exact HQ.out _ _ HX.out HB2.out
        | true =>
         have HRL:Hid (chkRel l w (.int .i64 ((k+1:Nat):Int)) w2):=Hd ⟨k+1,rfl,HK1.out,HGOOD.out HP.out,HB2.out⟩
         go_wp2_with fail
         refine ⟨?_,(by have:=HML.out;simp [intOf];try omega)⟩
         first
          | exact HRL.out
          | (repeat apply Exists.intro
             refine ⟨?_,rfl⟩
             exact HRL.out)
     ·have c2i:xn<(am:Int):=by omega
      have HP:=Hd (show pb=false by rw [HPD.out,decide_eq_false c2];simp)
      have HX:=Hd (HBAD.out HP.out)
      clear c2 c1 HPD
      go_wp2_with fail
      refine (CA.out _).mono ?_
      rintro e w2 ⟨rfl,rfl⟩
      go_wp2_with fail
      exact HQ.out _ _ HX.out HBA.out
    ·have c1i:(68:Int)<(xk:Int):=by omega
     have HP:=Hd (show pb=false by rw [HPD.out,decide_eq_false c1];simp)
     have HX:=Hd (HBAD.out HP.out)
     clear c1 HPD
     go_wp2_with fail
     refine (CA.out _).mono ?_
     rintro e w2 ⟨rfl,rfl⟩
     go_wp2_with fail
     exact HQ.out _ _ HX.out HBA.out
   ·have hkl:¬ (k:Int)<l.length:=by omega
    have HX:=Hd (show (if checkB l then (0:Int) else 8)=0 by rw [zGh HW.out fun j hj=>HY.out j hj (by omega)];rfl)
    go_wp2_with fail
    exact HQ.out _ _ HX.out HB.out
end Go.Proofs.YtfalelkfhandfaaGreatDoor
namespace Go.Proofs.YtfalelkfhandfaaGreatDoor
set_option linter.all false

def holeB (r:RuleM) (i:Nat):Bool:=match r.holes[i]? with
 | none=>true
 | some h=>!(r.holes.take i).any (fun g=>decide (g.1=h.1))&&(name h.1&&(decide (1≤h.2∧h.2≤7)&&(decide (1≤yU r.fnd h)&&decide (0≤yU r.by' h))))
def sevN (hs:List Hl):Nat:=(hs.filter fun h=>isSev h.2).length
def ruleTop (r:RuleM):Bool:=name r.nm&&(decide (1≤r.goal∧r.goal≤3)&&(checkB r.fnd&&(checkB r.by'&&!(decide (r.goal=3)&&decide (yJ r.by' 0≠13)))))
def ruleZ (r:RuleM):Int :=
 if ruleTop r=false then 10
 else if 16<r.holes.length∨2<sevN r.holes then 14
 else if ∀ i,i<r.holes.length→holeB r i=true then 0 else 11
theorem vB {l:List Prt} (h:checkB l=true):zZ l=true∧∀ p (hp:p<l.length),partB l[p]=true:=by
 unfold checkB at h
 simp only [Bool.and_eq_true,List.all_eq_true] at h
 exact ⟨h.1,fun p hp=>h.2 _ (List.getElem_mem hp)⟩
theorem zIg {p:Prt} (h:partB p=true) (hk:p.1=26):p.2.1=0:=by
 unfold partB at h
 simp only [Bool.and_eq_true,Bool.or_eq_true,decide_eq_true_eq] at h
 rw [hk] at h
 have e:arL 26=(0,false):=rfl
 rw [e] at h
 rcases h.2.2.1 with h1 | h1
 ·simpa using h1
 ·cases h1
theorem zIh {p:Prt} (h:partB p=true) (hk:p.1=50):p.2.1=1:=by
 unfold partB at h
 simp only [Bool.and_eq_true,Bool.or_eq_true,decide_eq_true_eq] at h
 rw [hk] at h
 have e:arL 50=(1,false):=rfl
 rw [e] at h
 rcases h.2.2.1 with h1 | h1
 ·simpa using h1
 ·cases h1
theorem zIi {l:List Prt} {h:Hl} (h0:0≤yU l h):∀ p (hp:p<l.length),vH l[p] h=true→xP l h.2 p=true :=
 fun p hp=>zCq l h l.length 0 0 (Int.le_refl _) (by omega) h0 p hp (by omega)
theorem zAe {r:RuleM} (h:ruleZ r=0):name r.nm=true∧(1≤r.goal∧r.goal≤3)∧checkB r.fnd=true∧checkB r.by'=true∧(r.goal=3→yJ r.by' 0=13)∧r.holes.length≤16∧sevN r.holes≤2∧∀ i,i<r.holes.length→holeB r i=true:=by
 unfold ruleZ at h
 split at h
 ·cases h
 ·rename_i h1
  split at h
  ·cases h
  ·rename_i h2
   split at h
   ·rename_i h3
    have h1:ruleTop r=true:=by simpa using h1
    unfold ruleTop at h1
    simp only [Bool.and_eq_true,Bool.not_eq_true',decide_eq_true_eq,Bool.and_eq_false_iff,decide_eq_false_iff_not] at h1
    obtain ⟨a1,a2,a3,a4,a5⟩:=h1
    refine ⟨a1,a2,a3,a4,fun e=>?_,by omega,by omega,h3⟩
    rcases a5 with a5 | a5
    ·exact absurd e a5
    ·exact Decidable.not_not.1 a5
   ·cases h
theorem jU {r:RuleM} {i:Nat} (hi:i<r.holes.length) (h:holeB r i=true):(∀ k (hk:k<i),(r.holes[k]).1≠(r.holes[i]).1)∧name (r.holes[i]).1=true∧(1≤(r.holes[i]).2∧(r.holes[i]).2≤7)∧1≤yU r.fnd r.holes[i]∧0≤yU r.by' r.holes[i]:=by
 unfold holeB at h
 rw [List.getElem?_eq_getElem hi] at h
 simp only [Bool.and_eq_true,decide_eq_true_eq,Bool.not_eq_true'] at h
 refine ⟨fun k hk e=>?_,h.2⟩
 have h1:=h.1
 rw [List.any_eq_false] at h1
 have h2:k<(r.holes.take i).length:=by rw [List.length_take];omega
 have:=h1 ((r.holes.take i)[k]) (List.getElem_mem h2)
 rw [List.getElem_take] at this
 simp [e] at this
theorem kV {r:RuleM} (h:ruleZ r=0):vP r.fnd r.holes∧vP r.by' r.holes∧∀ i (hi:i<r.holes.length),∃ p,p<r.fnd.length∧zW r.fnd r.holes p=some i:=by
 obtain ⟨a1,a2,a3,a4,a5,a6,a7,a8⟩:=zAe h
 have hu:∀ (a b:Nat) (ha:a<r.holes.length) (hb:b<r.holes.length),(r.holes[a]).1=(r.holes[b]).1→a=b:=by
  intro a b ha hb e
  rcases Nat.lt_trichotomy a b with c | c | c
  ·exact absurd e ((jU hb (a8 b hb)).1 a c)
  ·exact c
  ·exact absurd e.symm ((jU ha (a8 a ha)).1 b c)
 have f3:=vB a3
 have f4:=vB a4
 have H1:vP r.fnd r.holes:=⟨f3.1,hu,fun p hp=>zIg (f3.2 p hp),fun p hp=>zIh (f3.2 p hp),fun i hi p hp hpl=>zIi (by have:=(jU hi (a8 i hi)).2.2.2.1;omega) p hp hpl⟩
 refine ⟨H1,⟨f4.1,hu,fun p hp=>zIg (f4.2 p hp),fun p hp=>zIh (f4.2 p hp),fun i hi p hp hpl=>zIi (jU hi (a8 i hi)).2.2.2.2 p hp hpl⟩,fun i hi=>?_⟩
 have h1:=(jU hi (a8 i hi)).2.2.2.1
 obtain ⟨p,hp,hpl⟩:=zDd r.fnd r.holes[i] r.fnd.length 0 0 (Int.le_refl _) (by omega) (by unfold yU at h1;omega)
 exact H1.place_at hi hp hpl
def fuelZ (f:List Prt):Nat:=2*f.length+1
abbrev Bnd:=ByteArray×Int×Int
theorem zIj {l:List Prt} {us:List Nat} (hl:zG l=some us) {i:Nat} (hi:i<l.length):zZ (piece l i (zC l i))=true∧(piece l i (zC l i)).length=zC l i-i:=by
 obtain ⟨t,ht⟩:=zJp hl hi
 have hg:=zN hl hi
 have:=(yM ht).1
 simp at this
 exact ⟨by rw [jX,ht,this],zBy (by omega) hg.2⟩
theorem zIk {l:List Prt} {us:List Nat} (hl:zG l=some us) {a b:Nat} (hab:a≤b) {ts:List Nat} (hp:zG (piece l a b)=some ts):Sits (piece l a b) l a:=⟨⟨_,hp⟩,⟨_,hl⟩,⟨_,zGy hab⟩⟩
theorem zYn {l:List Prt} {us:List Nat} (hl:zG l=some us) {i k:Nat} (hi:i<l.length) (h1:i<k) (h2:k<zC l i) (h3:∀ j,i<j→j<k→zC l j≤k):upN l k=(i:Int):=by
 unfold upN
 have key:∀ m,i<m→m≤k→upI l k m=(i:Int):=by
  intro m
  induction m with
  | zero=>intro h;omega
  | succ m ih =>
   intro h4 h5
   rw [upI]
   by_cases e:m=i
   ·subst e;rw [if_pos h2]
   ·rw [if_neg (by have:=h3 m (by omega) (by omega);omega)]
    exact ih (by omega) (by omega)
 exact key k h1 (Nat.le_refl _)
theorem zIl {l:List Prt} {us:List Nat} (hl:zG l=some us) {i j:Nat} (hi:i<l.length) (h1:i≤j) (h2:j<zC l i):zC l j≤zC l i:=by
 have hp:=zIj hl hi
 have hg:=zN hl hi
 have hS:=zIk hl (show i≤zC l i by omega) (jX.1 hp.1)
 have hx:j-i<(piece l i (zC l i)).length:=by rw [hp.2];omega
 have e1:=hS.end_ hx
 have e2:=zN (jX.1 hp.1) hx
 rw [hp.2] at e2
 rw [show j-i+i=j by omega] at e1
 omega
def zQ (l:List Prt):Nat→Nat→Nat
 | 0,k=>k
 | n+1,k=>zQ l n (zC l k)
theorem fQ {l:List Prt} {k stop:Nat}:∀ {n b:Nat},advT l n k stop=some b→zQ l n k=b
 | 0,b,h=>by rw [advT] at h;cases h;rfl
 | n+1,b,h=>by
  rw [advT] at h
  split at h
  ·rw [zQ]
   exact fQ h
  ·cases h
theorem kK (l:List Prt):∀ (n k:Nat),zQ l (n+1) k=zC l (zQ l n k)
 | 0,k=>rfl
 | n+1,k=>by rw [zQ,kK l n (zC l k)];rfl
theorem zSh {l:List Prt} {us:List Nat} (hl:zG l=some us) {i:Nat} (hi:i<l.length):∃ q:Nat,(l[i]).2.1=(q:Int)∧zQ l q (i+1)=zC l i∧q≤l.length∧∀ c,c<q→i<zQ l c (i+1)∧zQ l c (i+1)<l.length:=by
 obtain ⟨q,h1,h2⟩:=kF hl hi
 have hg:=zN hl hi
 have hle:=jF hl _ _ _ _ hg.2 h2
 refine ⟨q,h1,fQ h2,by omega,fun c hc=>?_⟩
 have h3:=h2
 rw [show q=c+(q-c) by omega,jG] at h3
 cases hx:advT l c (i+1) (zC l i) with
 | none=>rw [hx] at h3;cases h3
 | some x =>
  rw [hx,Option.bind_some,show q-c=(q-c-1)+1 by omega,advT] at h3
  rw [fQ hx]
  split at h3
  ·have:=jF hl _ _ _ _ hg.2 hx
   omega
  ·cases h3
end Go.Proofs.YtfalelkfhandfaaGreatDoor
namespace Go.Proofs.YtfalelkfhandfaaGreatDoor
set_option linter.all false

def xQ:List RuleM→Int
 | []=>0
 | r::t=>if ruleZ r=0 then xQ t else ruleZ r
def yX (rules:List RuleM) (l:List Prt):Int:=if zZ l=false then 8 else if 32<rules.length then 14 else xQ rules
theorem zCl:∀ {rules:List RuleM},xQ rules=0↔∀ r∈rules,ruleZ r=0
 | []=>by simp [xQ]
 | r::t=>by
  rw [xQ]
  by_cases h:ruleZ r=0
  ·rw [if_pos h,zCl];simp [h]
  ·rw [if_neg h];simp [h]
theorem gJ {rules:List RuleM} {l:List Prt}:yX rules l=0↔zZ l=true∧rules.length≤32∧∀ r∈rules,ruleZ r=0:=by
 unfold yX
 cases hw:zZ l with
 | false=>simp
 | true =>
  rw [if_neg (by simp)]
  by_cases h:32<rules.length
  ·rw [if_pos h];constructor
   ·intro h;omega
   ·intro h;omega
  ·rw [if_neg h,zCl]
   constructor
   ·intro g;exact ⟨rfl,by omega,g⟩
   ·intro g;exact g.2.2
end Go.Proofs.YtfalelkfhandfaaGreatDoor
namespace Go.Proofs.YtfalelkfhandfaaGreatDoor
set_option linter.all false

end Go.Proofs.YtfalelkfhandfaaGreatDoor
namespace Go.Proofs.YtfalelkfhandfaaGreatDoor
set_option linter.all false

structure KidSeq (f:List Prt) (p q:Nat) (kp:Nat→Nat):Prop where
 len:(kidsB f p).length=q
 get:∀ c,c<q→(kidsB f p)[c]?=some (kp c)
 lt:∀ c,c<q→kp c<f.length
 nx:∀ c,c<q→zC f (kp c)=kp (c+1)
 up:∀ c,c<q→kp c<kp (c+1)
 le:∀ c,c≤q→kp c≤zC f p
 z:kp 0=p+1
 e:kp q=zC f p
 n:(q:Int)≤f.length
theorem zMq {f:List Prt} {us:List Nat} (h:zG f=some us) {p:Nat} (hp:p<f.length):∃ q kp,KidSeq f p q kp:=by
 obtain ⟨ts,q,f1,f2,f3,f4,f5⟩:=fH h hp
 have hl:=(yM f1).2.1
 rw [List.length_drop] at hl
 refine ⟨q,fun c=>p+1+(ts.take c).sum,⟨?_,fun c hc=>?_,fun c hc=>?_,fun c hc=>?_,fun c hc=>?_,fun c hc=>?_,by simp,f4.symm,by omega⟩⟩
 ·rw [f5,List.length_take,xN];omega
 ·obtain ⟨_,_,g3,_⟩:=fI h f1 f3 hc
  have e1:(starts (p+1) ts)[c]?=some (p+1+(ts.take c).sum):=by
   have e2:((starts (p+1) ts).take (c+1))[c]?=some (p+1+(ts.take c).sum):=by
    rw [g3,List.getElem?_append_right (by rw [List.length_take,xN];omega),List.length_take,xN,Nat.min_eq_left (by omega),Nat.sub_self]
    rfl
   rw [List.getElem?_take_of_lt (by omega)] at e2
   exact e2
  rw [f5,List.getElem?_take_of_lt hc,e1]
 ·exact (fI h f1 f3 hc).1
 ·exact (fI h f1 f3 hc).2.1
 ·have:=(fI h f1 f3 hc).2.2.2.2.1
  show p+1+_<p+1+_
  omega
 ·rw [f4]
  have:=kQ ts c (q-c)
  rw [show c+(q-c)=q by omega] at this
  show p+1+_≤p+1+_
  omega
section
variable {f l:List Prt} {hs:List Hl} {L:Nat→Nat}
end
end Go.Proofs.YtfalelkfhandfaaGreatDoor
namespace Go.Proofs.YtfalelkfhandfaaGreatDoor
set_option linter.all false

end Go.Proofs.YtfalelkfhandfaaGreatDoor
namespace Go.Proofs.YtfalelkfhandfaaGreatDoor
set_option linter.all false

def UpInv (l:List Prt):List (Nat×Int)→Nat→Prop
 | [],pos=>pos=l.length∨pos=0
 | (o,c)::st,pos=>o<pos∧0≤c∧advT l c.toNat pos (zC l o)=some (zC l o)∧zC l o≤l.length∧(∀ j,o<j→j<pos→zC l j≤pos)∧UpInv l st (zC l o)
theorem UpInv.pop {l:List Prt} {o:Nat} {st:List (Nat×Int)} {pos:Nat} (h:UpInv l ((o,0)::st) pos):UpInv l st pos:=by
 obtain ⟨_,_,h3,_,_,h6⟩:=h
 rw [show (0:Int).toNat=0 by rfl,advT] at h3
 have:pos=zC l o:=by simpa using h3
 rw [this];exact h6
theorem UpInv.top {l:List Prt} {us:List Nat} (hl:zG l=some us) {o:Nat} {c:Int} {st:List (Nat×Int)} {pos:Nat} (h:UpInv l ((o,c)::st) pos) (hc:c≠0):upN l pos=(o:Int)∧o<pos∧pos<zC l o:=by
 obtain ⟨h1,h2,h3,h4,h5,_⟩:=h
 have hlt:pos<zC l o:=by
  obtain ⟨k,hk⟩:∃ k,c.toNat=k+1:=⟨c.toNat-1,by omega⟩
  rw [hk,advT] at h3
  split at h3
  ·assumption
  ·cases h3
 exact ⟨zYn hl (by omega) h1 hlt h5,h1,hlt⟩
theorem UpInv.push {l:List Prt} {us:List Nat} (hl:zG l=some us) {o:Nat} {c:Int} {st:List (Nat×Int)} {i:Nat} (h:UpInv l ((o,c)::st) i) (hc:c≠0) (hi:i<l.length):UpInv l ((i,(l[i]).2.1)::(o,c-1)::st) (i+1):=by
 obtain ⟨g1,g2,g3⟩:=h.top hl hc
 obtain ⟨h1,h2,h3,h4,h5,h6⟩:=h
 obtain ⟨q,k1,k2⟩:=kF hl hi
 have hg:=zN hl hi
 refine ⟨by omega,by omega,by rw [k1];exact k2,hg.2,fun j a b=>by omega,by omega,by omega,?_,h4,fun j a b=>?_,h6⟩
 ·obtain ⟨k,hk⟩:∃ k,c.toNat=k+1:=⟨c.toNat-1,by omega⟩
  rw [hk,advT,if_pos g3] at h3
  rw [show (c-1).toNat=k by omega];exact h3
 ·rcases Nat.lt_or_ge j i with a1 | a1
  ·have:=h5 j a a1;omega
  ·exact zIl hl hi a1 b
theorem UpInv.root {l:List Prt} (hl:zZ l=true) (h0:0<l.length):UpInv l [(0,(l[0]).2.1)] 1:=by
 have hw:=zK hl
 have hz:=xA hl
 obtain ⟨q,k1,k2⟩:=kF hw h0
 exact ⟨by omega,by omega,by rw [k1];exact k2,by omega,fun j a b=>by omega,Or.inl hz.2⟩
theorem UpInv.len {l:List Prt}:∀ {st:List (Nat×Int)} {pos:Nat},UpInv l st pos→∀ x∈st,x.1<l.length∧0≤x.2
 | [],_,_,x,hx=>by cases hx
 | (o,c)::st,pos,h,x,hx=>by
  obtain ⟨h1,h2,h3,h4,h5,h6⟩:=h
  rcases List.mem_cons.1 hx with rfl | hx
  ·refine ⟨?_,h2⟩
   show o<l.length
   apply Classical.byContradiction
   intro hn
   have:zC l o=o:=by
    unfold zC headSize
    rw [List.drop_eq_nil_of_le (by omega),jC];rfl
   cases hc:c.toNat with
   | zero =>
    rw [hc,advT] at h3
    have:=Option.some.inj h3
    omega
   | succ k =>
    rw [hc,advT] at h3
    split at h3
    ·omega
    ·cases h3
  ·exact UpInv.len h6 x hx
end Go.Proofs.YtfalelkfhandfaaGreatDoor
