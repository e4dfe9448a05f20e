/- Layer 11: which words a kind may have; the program's spelt, walked. -/
import Derived.Test.YtmklemelgdilkaaGreatDoorCheckPMk
import Derived.Test.YtmklemelgdilkaaGreatDoorClassMk
import Derived.Test.YtmklemelgdilkaaGreatDoorMatchP2Mk
import Derived.Test.YtmklemelgdilkaaGreatDoorNum4Mk
import Derived.Test.YtmklemelgdilkaaGreatDoorShelfQMk
import Derived.Test.YtmklemelgdilkaaGreatDoorTermQMk
namespace Go.Proofs.YtmklemelgdilkaaGreatDoor
set_option linter.all false
open Go.RowKit

theorem strB_toList (x:List UInt8):(⟨x.toArray⟩:ByteArray).toList=x:=by rw [ByteArray.toList_eq]
def sptB (k:Nat) (s:ByteArray):Bool :=
 if k=26 then name s else if k=27 then (decide ((value s).2=0) || decide (kindL (byts s)≠0)) else (s.toList.isEmpty&&noneT k) || decide (s.toList∈wordsT k)
theorem spt_other {k:Nat} (s:ByteArray) (h1:k≠26) (h2:k≠27):sptB k s=((s.toList.isEmpty&&noneT k) || decide (s.toList∈wordsT k)):=by unfold sptB;rw [if_neg h1,if_neg h2]
theorem spt_words {k:Nat} (s:ByteArray) (h:k=3∨k=4∨k=36∨k=37∨k=45∨k=52∨k=53∨k=57):sptB k s=(!s.toList.isEmpty&&(!Lib.contains s.toList [32]&&Lib.contains (wordsP k) (32::(s.toList++[32])))):=by
 have e:wordsP k=jn (wordsT k):=by rcases h with rfl | rfl | rfl | rfl | rfl | rfl | rfl | rfl <;> rfl
 have hn:noneT k=false:=by rcases h with rfl | rfl | rfl | rfl | rfl | rfl | rfl | rfl <;> rfl
 rw [spt_other s (by omega) (by omega),hn,Bool.and_false,Bool.false_or,e,← among_jn (wordsT_fine k)]
 congr 1
 cases s.toList with
 | nil=>rfl
 | cons a l=>simp
theorem spt_none {k:Nat} (s:ByteArray) (h:¬ (k=26∨k=27∨k=5∨k=7∨k=15∨k=34∨k=66)) (hw:wordsP k=[]):sptB k s=s.toList.isEmpty:=by
 have hk:¬ (k=3∨k=4)∧k≠36∧k≠37∧k≠45∧k≠52∧k≠53∧k≠57:=by
  unfold wordsP at hw
  have ne:∀ ws,jn ws≠[]:=fun ws=>by obtain ⟨t,ht⟩:=jn_head ws;rw [ht];simp
  by_cases h1:k=3∨k=4
  ·rw [if_pos h1] at hw;exact absurd hw (ne _)
  rw [if_neg h1] at hw
  by_cases h2:k=36
  ·rw [if_pos h2] at hw;exact absurd hw (ne _)
  rw [if_neg h2] at hw
  by_cases h3:k=37
  ·rw [if_pos h3] at hw;exact absurd hw (ne _)
  rw [if_neg h3] at hw
  by_cases h4:k=45
  ·rw [if_pos h4] at hw;exact absurd hw (ne _)
  rw [if_neg h4] at hw
  by_cases h5:k=52
  ·rw [if_pos h5] at hw;exact absurd hw (ne _)
  rw [if_neg h5] at hw
  by_cases h6:k=53
  ·rw [if_pos h6] at hw;exact absurd hw (ne _)
  rw [if_neg h6] at hw
  by_cases h7:k=57
  ·rw [if_pos h7] at hw;exact absurd hw (ne _)
  exact ⟨h1,h2,h3,h4,h5,h6,h7⟩
 rw [spt_other s (by omega) (by omega)]
 have hn:noneT k=true:=by unfold noneT;simp;omega
 have ht:wordsT k=[]:=by
  unfold wordsT
  rw [if_neg (by omega),if_neg (by omega),if_neg (by omega),if_neg (by omega),if_neg (by omega),if_neg (by omega),if_neg (by omega),if_neg (by omega),if_neg (by omega),if_neg (by omega),if_neg (by omega)]
 rw [hn,ht];simp
theorem words_or (k:Nat):wordsP k=[]∨((k=3∨k=4∨k=36∨k=37∨k=45∨k=52∨k=53∨k=57)∧wordsP k≠[]):=by
 by_cases h:k=3∨k=4∨k=36∨k=37∨k=45∨k=52∨k=53∨k=57
 ·refine Or.inr ⟨h,?_⟩
  rcases h with rfl | rfl | rfl | rfl | rfl | rfl | rfl | rfl <;> decide
 ·left
  unfold wordsP
  rw [if_neg (by omega),if_neg (by omega),if_neg (by omega),if_neg (by omega),if_neg (by omega),if_neg (by omega),if_neg (by omega)]
set_option maxRecDepth 100000 in
set_option maxHeartbeats 16000000 in
theorem term_spelt (k:Nat) (hk:k<256) (s:ByteArray) (w:World) (hT:Tabs w) (hM:MaxC w) (hs:s.size≤2147483647) :
  Calls Tryz.prog 64 #[.int .u8 (k:Int),.string s] w fun e w'=>e=.returned (.bool (sptB k s))∧Below w.heap.size w w':=by
 have HQ:RowKit.Hid (∀ x w',sptB k s=x→Below w.heap.size w w'→(fun (e:Ending) w'=>e=.returned (.bool (sptB k s))∧Below w.heap.size w w') (.returned (.bool x)) w'):=Hd fun x w' h hb=>⟨by rw [h],hb⟩
 generalize (fun (e:Ending) w'=>e=.returned (.bool (sptB k s))∧Below w.heap.size w w')=Q at *
 have HM:=Hd hM
 clear hM
 by_cases k26:k=26
 ·have C1:=Hd (class_Name s w hT)
  have HV:=Hd (show sptB k s=name s by unfold sptB;rw [if_pos k26])
  have f26:((k:Int) == 26)=true:=by rw [beq_iff_eq];omega
  clear k26
  go_enter Tryz.func64,Tryz.ntmps64
  go_wp2_with fail
  refine C1.out.mono ?_
  rintro e w1 ⟨rfl,hb⟩
  generalize name s=x at *
  go_wp2_with fail
  exact HQ.out _ _ HV.out hb
 have f26:((k:Int) == 26)=false:=by rw [beq_eq_false_iff_ne];omega
 by_cases k27:k=27
 ·have C1:=Hd (quoted_Value s w hT HM.out hs)
  have C2:=Hd (fun w=>number_Kind s hs w)
  have HV:=Hd (show sptB k s=(decide ((value s).2=0) || decide (kindL (byts s)≠0)) by unfold sptB;rw [if_neg k26,if_pos k27])
  have f27:((k:Int) == 27)=true:=by rw [beq_iff_eq];omega
  clear k26 k27
  go_enter Tryz.func64,Tryz.ntmps64
  go_wp2_with fail
  refine C1.out.mono ?_
  intro e w1 h1
  unfold valuePost at h1
  obtain ⟨rfl,hb⟩:=h1
  have HB:=Hd hb
  clear hb
  generalize value s=v at *
  obtain ⟨v1,v2⟩:=v
  generalize kindL (byts s)=q at *
  simp only [] at HV
  by_cases hv:v2=0
  ·have hvb:(v2 == 0)=true:=by rw [beq_iff_eq];exact hv
   have HX:=Hd (show sptB k s=true by rw [HV.out,decide_eq_true hv,Bool.true_or])
   clear hv HV
   go_wp2_with fail
   exact HQ.out _ _ HX.out HB.out
  ·have hvb:(v2 == 0)=false:=by rw [beq_eq_false_iff_ne];exact hv
   have HX:=Hd (show sptB k s=decide (q≠0) by rw [HV.out,decide_eq_false hv,Bool.false_or])
   clear hv HV
   go_wp2_with fail
   refine (C2.out _).mono ?_
   rintro e w2 ⟨rfl,hb2⟩
   have HB2:=Hd (bthen HB.out hb2)
   clear hb2
   go_wp2_with fail
   exact HQ.out _ _ (by rw [HX.out,Bool.eq_iff_iff];simp;try omega) HB2.out
 have f27:((k:Int) == 27)=false:=by rw [beq_eq_false_iff_ne];omega
 have HO:=Hd (spt_other s k26 k27)
 by_cases kk:k=5∨k=5
 ·have f5:((k:Int) == 5)=true:=by rw [beq_iff_eq];omega
  have HV:=Hd (show sptB k s=(s.toList.isEmpty || (s.toList == [46])) by rw [HO.out,Bool.eq_iff_iff];rcases kk with rfl | rfl <;> simp [noneT,wordsT])
  clear HO kk k26 k27
  by_cases he:s.toList.isEmpty=true
  ·have HX:=Hd (show sptB k s=true by rw [HV.out,he];rfl)
   have he2:s.toList=[]:=by simpa using he
   go_enter Tryz.func64,Tryz.ntmps64
   go_wp2_with fail
   all_goals exact HQ.out _ _ HX.out (Below.refl _ _)
  ·have he1:s.toList.isEmpty=false:=by simpa using he
   have HX:=Hd (show sptB k s=(s.toList == [46]) by rw [HV.out,he1,Bool.false_or])
   clear he
   go_enter Tryz.func64,Tryz.ntmps64
   go_wp2_with fail
   all_goals exact HQ.out _ _ HX.out (Below.refl _ _)
 have k5:k≠5:=by omega
 have f5:((k:Int) == 5)=false:=by rw [beq_eq_false_iff_ne];omega
 clear kk
 by_cases kk:k=7∨k=7
 ·have f7:((k:Int) == 7)=true:=by rw [beq_iff_eq];omega
  have HV:=Hd (show sptB k s=(s.toList.isEmpty || (s.toList == [61])) by rw [HO.out,Bool.eq_iff_iff];rcases kk with rfl | rfl <;> simp [noneT,wordsT])
  clear HO kk k26 k27 k5
  by_cases he:s.toList.isEmpty=true
  ·have HX:=Hd (show sptB k s=true by rw [HV.out,he];rfl)
   have he2:s.toList=[]:=by simpa using he
   go_enter Tryz.func64,Tryz.ntmps64
   go_wp2_with fail
   all_goals exact HQ.out _ _ HX.out (Below.refl _ _)
  ·have he1:s.toList.isEmpty=false:=by simpa using he
   have HX:=Hd (show sptB k s=(s.toList == [61]) by rw [HV.out,he1,Bool.false_or])
   clear he
   go_enter Tryz.func64,Tryz.ntmps64
   go_wp2_with fail
   all_goals exact HQ.out _ _ HX.out (Below.refl _ _)
 have k7:k≠7:=by omega
 have f7:((k:Int) == 7)=false:=by rw [beq_eq_false_iff_ne];omega
 clear kk
 by_cases kk:k=15∨k=15
 ·have f15:((k:Int) == 15)=true:=by rw [beq_iff_eq];omega
  have HV:=Hd (show sptB k s=(s.toList.isEmpty || (s.toList == [46,46,46])) by rw [HO.out,Bool.eq_iff_iff];rcases kk with rfl | rfl <;> simp [noneT,wordsT])
  clear HO kk k26 k27 k5 k7
  by_cases he:s.toList.isEmpty=true
  ·have HX:=Hd (show sptB k s=true by rw [HV.out,he];rfl)
   have he2:s.toList=[]:=by simpa using he
   go_enter Tryz.func64,Tryz.ntmps64
   go_wp2_with fail
   all_goals exact HQ.out _ _ HX.out (Below.refl _ _)
  ·have he1:s.toList.isEmpty=false:=by simpa using he
   have HX:=Hd (show sptB k s=(s.toList == [46,46,46]) by rw [HV.out,he1,Bool.false_or])
   clear he
   go_enter Tryz.func64,Tryz.ntmps64
   go_wp2_with fail
   all_goals exact HQ.out _ _ HX.out (Below.refl _ _)
 have k15:k≠15:=by omega
 have f15:((k:Int) == 15)=false:=by rw [beq_eq_false_iff_ne];omega
 clear kk
 by_cases kk:k=34∨k=34
 ·have f34:((k:Int) == 34)=true:=by rw [beq_iff_eq];omega
  have HV:=Hd (show sptB k s=(s.toList.isEmpty || (s.toList == [46,46,46])) by rw [HO.out,Bool.eq_iff_iff];rcases kk with rfl | rfl <;> simp [noneT,wordsT])
  clear HO kk k26 k27 k5 k7 k15
  by_cases he:s.toList.isEmpty=true
  ·have HX:=Hd (show sptB k s=true by rw [HV.out,he];rfl)
   have he2:s.toList=[]:=by simpa using he
   go_enter Tryz.func64,Tryz.ntmps64
   go_wp2_with fail
   all_goals exact HQ.out _ _ HX.out (Below.refl _ _)
  ·have he1:s.toList.isEmpty=false:=by simpa using he
   have HX:=Hd (show sptB k s=(s.toList == [46,46,46]) by rw [HV.out,he1,Bool.false_or])
   clear he
   go_enter Tryz.func64,Tryz.ntmps64
   go_wp2_with fail
   all_goals exact HQ.out _ _ HX.out (Below.refl _ _)
 have k34:k≠34:=by omega
 have f34:((k:Int) == 34)=false:=by rw [beq_eq_false_iff_ne];omega
 clear kk
 by_cases k66:k=66
 ·have f66:((k:Int) == 66)=true:=by rw [beq_iff_eq];omega
  have HV:=Hd (show sptB k s=(s.toList.isEmpty || ((s.toList == [61]) || (s.toList == [58,61]))) by rw [HO.out,Bool.eq_iff_iff,k66];simp [noneT,wordsT])
  clear HO k66 k26 k27 k5 k7 k15 k34
  by_cases he:s.toList.isEmpty=true
  ·have HX:=Hd (show sptB k s=true by rw [HV.out,he];rfl)
   have he2:s.toList=[]:=by simpa using he
   go_enter Tryz.func64,Tryz.ntmps64
   go_wp2_with fail
   all_goals exact HQ.out _ _ HX.out (Below.refl _ _)
  ·have he1:s.toList.isEmpty=false:=by simpa using he
   clear he
   cases hq:(s.toList == [61]) with
   | true =>
    have HX:=Hd (show sptB k s=true by rw [HV.out,he1,hq];rfl)
    clear HV
    go_enter Tryz.func64,Tryz.ntmps64
    go_wp2_with fail
    all_goals exact HQ.out _ _ HX.out (Below.refl _ _)
   | false =>
    have HX:=Hd (show sptB k s=(s.toList == [58,61]) by rw [HV.out,he1,hq];rfl)
    clear HV
    go_enter Tryz.func64,Tryz.ntmps64
    go_wp2_with fail
    all_goals exact HQ.out _ _ HX.out (Below.refl _ _)
 have f66:((k:Int) == 66)=false:=by rw [beq_eq_false_iff_ne];omega
 have C1:=Hd (term_words k hk w)
 rcases words_or k with hw | ⟨hw,hne⟩
 ·have HX:=Hd (spt_none s (by omega) hw)
  rw [hw] at C1
  clear hw HO k66 k26 k27 k5 k7 k15 k34
  go_enter Tryz.func64,Tryz.ntmps64
  go_wp2_with fail
  refine C1.out.mono ?_
  rintro e w1 ⟨rfl,rfl⟩
  go_wp2_with fail
  exact HQ.out _ _ HX.out (Below.refl _ _)
 ·have HV:=Hd (spt_words s hw)
  obtain ⟨m,hm,_⟩:=HM.out
  have hAl:((⟨(wordsP k).toArray⟩:ByteArray).toList.isEmpty)=false:=by
   rw [strB_toList];cases h:wordsP k with
   | nil=>exact absurd h hne
   | cons a l=>rfl
  have hAz:(⟨(wordsP k).toArray⟩:ByteArray).size≤1000:=by
   have:∀ k,k<58→(wordsP k).length≤1000:=by decide
   show (wordsP k).toArray.size≤1000
   simpa using this k (by omega)
  have CB1:=Hd (Tryz.strings_Contains s ⟨#[32]⟩ m w (by omega) hm)
  have CB2:=Hd (Tryz.strings_Contains ⟨(wordsP k).toArray⟩ ((⟨#[32]⟩:ByteArray)++s++⟨#[32]⟩) m w (by omega) hm)
  have hz1:¬ 9223372036854775807<(⟨#[32]⟩:ByteArray).size+s.size:=by show ¬ _<1+_;omega
  have hz2:¬ 9223372036854775807<((⟨#[32]⟩:ByteArray)++s).size+(⟨#[32]⟩:ByteArray).size:=by rw [ByteArray.size_append];show ¬ _<1+_+1;omega
  have hcat:((⟨#[32]⟩:ByteArray)++s++⟨#[32]⟩).data.toList=32::(s.toList++[32]):=by rw [ByteArray.data_append,ByteArray.data_append,ByteArray.toList_eq];simp
  rw [hcat] at CB2
  have e1:(⟨(wordsP k).toArray⟩:ByteArray).data.toList=wordsP k:=by simp
  rw [e1] at CB2
  have e2:s.data.toList=s.toList:=(ByteArray.toList_eq s).symm
  rw [e2,show (⟨#[32]⟩:ByteArray).data.toList=[32] from rfl] at CB1
  clear e1 e2 hcat hm hw hne HO k66 k26 k27 k5 k7 k15 k34 hAz
  generalize (⟨(wordsP k).toArray⟩:ByteArray)=A at *
  generalize Lib.contains s.toList [32]=b1 at *
  generalize Lib.contains (wordsP k) (32::(s.toList++[32]))=b2 at *
  by_cases he:s.toList.isEmpty=true
  ·have he2:s.toList=[]:=by simpa using he
   have HX:=Hd (show sptB k s=false by rw [HV.out,he];rfl)
   go_enter Tryz.func64,Tryz.ntmps64
   go_wp2_with fail
   refine C1.out.mono ?_
   rintro e w1 ⟨rfl,rfl⟩
   go_wp2_with fail
   exact HQ.out _ _ HX.out (Below.refl _ _)
  ·have he1:s.toList.isEmpty=false:=by simpa using he
   clear he
   cases b1 with
   | true =>
    have HX:=Hd (show sptB k s=false by rw [HV.out,he1];rfl)
    go_enter Tryz.func64,Tryz.ntmps64
    go_wp2_with fail
    refine C1.out.mono ?_
    rintro e w1 ⟨rfl,rfl⟩
    go_wp2_with fail
    refine CB1.out.mono ?_
    rintro e w1 ⟨rfl,rfl⟩
    go_wp2_with fail
    exact HQ.out _ _ HX.out (Below.refl _ _)
   | false =>
    have HX:=Hd (show sptB k s=b2 by rw [HV.out,he1];rfl)
    go_enter Tryz.func64,Tryz.ntmps64
    go_wp2_with fail
    refine C1.out.mono ?_
    rintro e w1 ⟨rfl,rfl⟩
    go_wp2_with fail
    refine CB1.out.mono ?_
    rintro e w1 ⟨rfl,rfl⟩
    go_wp2_with fail
    refine CB2.out.mono ?_
    rintro e w1 ⟨rfl,rfl⟩
    go_wp2_with fail
    exact HQ.out _ _ HX.out (Below.refl _ _)
end Go.Proofs.YtmklemelgdilkaaGreatDoor
namespace Go.Proofs.YtmklemelgdilkaaGreatDoor
set_option linter.all false
open Go.RowKit

def partB (p:Prt):Bool:=decide (p.1≤68)&&(decide (((arL p.1).1:Int)≤p.2.1)&&((decide (p.2.1=(arL p.1).1) || (arL p.1).2)&&sptB p.1 p.2.2))
def checkB (l:List Prt):Bool:=wellB l&&l.all partB
def FineP (l:List Prt):Prop:=∀ p∈l,p.1<256∧p.2.2.size≤2147483647
theorem FineP.at {l:List Prt} (h:FineP l) {k:Nat} (hk:k<l.length):(l[k]).1<256∧(l[k]).2.2.size≤2147483647:=h _ (List.getElem_mem hk)
theorem check_bad {l:List Prt} {k:Nat} (hk:k<l.length) (h:partB l[k]=false):checkB l=false:=by
 unfold checkB
 have:l.all partB=false:=by rw [List.all_eq_false];exact ⟨l[k],List.getElem_mem hk,by simp [h]⟩
 rw [this,Bool.and_false]
theorem check_good {l:List Prt} (hw:wellB l=true) (h:∀ j (hj:j<l.length),partB l[j]=true):checkB l=true:=by
 unfold checkB
 rw [hw,Bool.true_and,List.all_eq_true]
 intro p hp
 obtain ⟨i,hi,rfl⟩:=List.getElem_of_mem hp
 exact h i hi
def chkRel (l:List Prt) (w:World) (i:Value) (wr:World):Prop:=∃ k:Nat,i=.int .i64 (k:Int)∧k≤l.length∧(∀ j (hj:j<l.length),j<k→partB l[j]=true)∧Below w.heap.size w wr
theorem chk_next {l:List Prt} {k:Nat} (hk:k<l.length) (h:partB l[k]=true) (hn:∀ j (hj:j<l.length),j<k→partB l[j]=true):∀ j (hj:j<l.length),j<k+1→partB l[j]=true:=by
 intro j hj hlt
 by_cases e:j=k
 ·subst e;exact h
 ·exact hn j hj (by omega)
set_option maxRecDepth 100000 in
set_option maxHeartbeats 16000000 in
theorem term_Check (l:List Prt) (hl:l.length≤1000000000) (hf:FineP l) (v:Value) (w:World) (hT:Tabs w) (hM:MaxC w) (hr:PartRow w v l) :
  Calls Tryz.prog 49 #[v] w fun e w'=>e=.returned (.int .i64 (if checkB l then 0 else 8))∧Below w.heap.size w w':=by
 have HQ:RowKit.Hid (∀ x w',(if checkB l then (0:Int) else 8)=x→Below w.heap.size w w'→(fun (e:Ending) w'=>e=.returned (.int .i64 (if checkB l then 0 else 8))∧Below w.heap.size w w') (.returned (.int .i64 x)) w'):=Hd fun x w' h hb=>⟨by rw [h],hb⟩
 generalize (fun (e:Ending) w'=>e=.returned (.int .i64 (if checkB l then 0 else 8))∧Below w.heap.size w w')=Q at *
 have HR:=Hd hr
 have HF:=Hd hf
 have HT:=Hd hT
 have HM:=Hd hM
 have C1:=Hd (term_Well l hl v w hr)
 obtain ⟨va,vcap,rfl,hvc⟩:=hr.slice
 clear hr hf hT hM
 go_enter Tryz.func49,Tryz.ntmps49
 go_wp2_with fail
 refine C1.out.mono ?_
 rintro e w1 ⟨rfl,hb1⟩
 have HB1:=Hd hb1
 clear hb1 C1
 cases hw:wellB l with
 | false =>
  have HX:=Hd (show (if checkB l then (0:Int) else 8)=8 by unfold checkB;rw [hw];rfl)
  clear hw
  go_wp2_with fail
  exact HQ.out _ _ HX.out HB1.out
 | true =>
  have HW:=Hd hw
  clear hw
  go_wp2_with fail
  go_loopw [12] (fun i wr=>chkRel l w i wr) (fun i _=>l.length-(intOf i).toNat)
  case atStart=>exact ⟨0,rfl,Nat.zero_le _,fun j _ h=>by omega,HB1.out⟩
  case round =>
   obtain ⟨k,rfl,hk,hyes,hb⟩:=hrel
   have HB:=Hd hb
   have HY:=Hd hyes
   clear hb hyes
   by_cases hlt:k<l.length
   ·have hkl:(k:Int)<l.length:=by omega
    obtain ⟨b1,o1,rfl,_,_,_,hc1⟩:=HR.out.at HB.out (show 0<l.length by omega)
    obtain ⟨d0,d1,d2⟩:=hc1 k hlt
    have hk0:(0:Int)≤k:=by omega
    have hkc:(k:Int)<vcap:=by omega
    have hwk:IntKind.i64.wrap ((k:Int)+1)=(k:Int)+1:=by rw [IntKind.wrap_i64];omega
    obtain ⟨hk256,hsz⟩:=HF.out.at hlt
    have HBAD:=Hd (fun (h:partB l[k]=false)=>show (if checkB l then (0:Int) else 8)=8 by rw [check_bad hlt h];rfl)
    have HGOOD:=Hd (fun (h:partB l[k]=true)=>chk_next hlt h HY.out)
    have HML:RowKit.Hid (l.length-(k+1)<l.length-k):=Hd (by omega)
    have HK1:RowKit.Hid (k+1≤l.length):=Hd hlt
    have hpd:partB l[k]=(decide ((l[k]).1≤68)&&(decide (((arL (l[k]).1).1:Int)≤(l[k]).2.1)&&((decide ((l[k]).2.1=(arL (l[k]).1).1) || (arL (l[k]).1).2)&&sptB (l[k]).1 (l[k]).2.2))):=rfl
    have HPD:=Hd hpd
    clear hc1 hpd
    generalize hpb:partB l[k]=pb at *
    have HPB:=Hd hpb
    clear hpb
    generalize l[k]=x at *
    obtain ⟨xk,xn,xw⟩:=x
    simp only [] at d0 d1 d2 hk256 hsz HPD
    have HPK:=PK.alloc_new wr (xk,xn,xw)
    have p0:=HPK.c0;have p1:=HPK.c1;have p2:=HPK.c2
    have HBA:=Hd (HB.out.alloc HB.out.size (.cells #[.int .u8 (xk:Int),.int .i64 xn,.string xw] 45))
    have HTA:=Hd (HT.out.below HBA.out)
    have HMA:=Hd (HM.out.below HBA.out)
    have CA:=Hd (fun w=>term_arity xk hk256 w)
    have CS:=Hd (term_spelt xk hk256 xw _ HTA.out HMA.out hsz)
    clear HPK HTA HMA hsz
    generalize arL xk=ar at *
    generalize sptB xk xw=sp at *
    obtain ⟨am,ab⟩:=ar
    simp only [] at p0 p1 p2 HPD
    by_cases c1:xk≤68
    ·have c1i:¬ (68:Int)<(xk:Int):=by omega
     by_cases c2:(am:Int)≤xn
     ·have c2i:¬ xn<(am:Int):=by omega
      by_cases c3:xn=(am:Int)
      ·have c3i:¬ (am:Int)<xn:=by omega
       have HP:=Hd (show pb=sp by rw [HPD.out,decide_eq_true c1,decide_eq_true c2,decide_eq_true c3];simp)
       clear c3 c2 c1 HPD
       go_wp2_with fail
       refine (CA.out _).mono ?_
       rintro e w2 ⟨rfl,rfl⟩
       go_wp2_with fail
       refine CS.out.mono ?_
       rintro e w2 ⟨rfl,hb2⟩
       have HB2:=Hd (bthen HBA.out hb2)
       clear hb2
       cases sp with
       | false =>
        have HX:=Hd (HBAD.out HP.out)
        go_wp2_with fail
        exact HQ.out _ _ HX.out HB2.out
       | true =>
        have HRL:RowKit.Hid (chkRel l w (.int .i64 ((k+1:Nat):Int)) w2):=Hd ⟨k+1,rfl,HK1.out,HGOOD.out HP.out,HB2.out⟩
        go_wp2_with fail
        refine ⟨?_,(by have:=HML.out;simp [intOf];try omega)⟩
        first
         | exact HRL.out
         | (repeat apply Exists.intro
            refine ⟨?_,rfl⟩
            exact HRL.out)
      ·have c3i:(am:Int)<xn:=by omega
       cases ab with
       | false =>
        have HP:=Hd (show pb=false by rw [HPD.out,decide_eq_false c3];simp)
        have HX:=Hd (HBAD.out HP.out)
        clear c3 c2 c1 HPD
        go_wp2_with fail
        refine (CA.out _).mono ?_
        rintro e w2 ⟨rfl,rfl⟩
        go_wp2_with fail
        exact HQ.out _ _ HX.out HBA.out
       | true =>
        have HP:=Hd (show pb=sp by rw [HPD.out,decide_eq_true c1,decide_eq_true c2];simp)
        clear c3 c2 c1 HPD
        go_wp2_with fail
        refine (CA.out _).mono ?_
        rintro e w2 ⟨rfl,rfl⟩
        go_wp2_with fail
        refine CS.out.mono ?_
        rintro e w2 ⟨rfl,hb2⟩
        have HB2:=Hd (bthen HBA.out hb2)
        clear hb2
        cases sp with
        | false =>
         have HX:=Hd (HBAD.out HP.out)
         go_wp2_with fail
         exact HQ.out _ _ HX.out HB2.out
        | true =>
         have HRL:RowKit.Hid (chkRel l w (.int .i64 ((k+1:Nat):Int)) w2):=Hd ⟨k+1,rfl,HK1.out,HGOOD.out HP.out,HB2.out⟩
         go_wp2_with fail
         refine ⟨?_,(by have:=HML.out;simp [intOf];try omega)⟩
         first
          | exact HRL.out
          | (repeat apply Exists.intro
             refine ⟨?_,rfl⟩
             exact HRL.out)
     ·have c2i:xn<(am:Int):=by omega
      have HP:=Hd (show pb=false by rw [HPD.out,decide_eq_false c2];simp)
      have HX:=Hd (HBAD.out HP.out)
      clear c2 c1 HPD
      go_wp2_with fail
      refine (CA.out _).mono ?_
      rintro e w2 ⟨rfl,rfl⟩
      go_wp2_with fail
      exact HQ.out _ _ HX.out HBA.out
    ·have c1i:(68:Int)<(xk:Int):=by omega
     have HP:=Hd (show pb=false by rw [HPD.out,decide_eq_false c1];simp)
     have HX:=Hd (HBAD.out HP.out)
     clear c1 HPD
     go_wp2_with fail
     refine (CA.out _).mono ?_
     rintro e w2 ⟨rfl,rfl⟩
     go_wp2_with fail
     exact HQ.out _ _ HX.out HBA.out
   ·have hkl:¬ (k:Int)<l.length:=by omega
    have HX:=Hd (show (if checkB l then (0:Int) else 8)=0 by rw [check_good HW.out fun j hj=>HY.out j hj (by omega)];rfl)
    go_wp2_with fail
    exact HQ.out _ _ HX.out HB.out
end Go.Proofs.YtmklemelgdilkaaGreatDoor
namespace Go.Proofs.YtmklemelgdilkaaGreatDoor
set_option linter.all false

def holeB (r:RuleM) (i:Nat):Bool:=match r.holes[i]? with
 | none=>true
 | some h=>!(r.holes.take i).any (fun g=>decide (g.1=h.1))&&(name h.1&&(decide (1≤h.2∧h.2≤7)&&(decide (1≤placesZ r.fnd h)&&decide (0≤placesZ r.by' h))))
def sevN (hs:List Hl):Nat:=(hs.filter fun h=>isSev h.2).length
def ruleTop (r:RuleM):Bool:=name r.nm&&(decide (1≤r.goal∧r.goal≤3)&&(checkB r.fnd&&(checkB r.by'&&!(decide (r.goal=3)&&decide (kindAt r.by' 0≠13)))))
def ruleZ (r:RuleM):Int :=
 if ruleTop r=false then 10
 else if 16<r.holes.length∨2<sevN r.holes then 14
 else if ∀ i,i<r.holes.length→holeB r i=true then 0 else 11
theorem checkB_inv {l:List Prt} (h:checkB l=true):wellB l=true∧∀ p (hp:p<l.length),partB l[p]=true:=by
 unfold checkB at h
 simp only [Bool.and_eq_true,List.all_eq_true] at h
 exact ⟨h.1,fun p hp=>h.2 _ (List.getElem_mem hp)⟩
theorem partB_leaf {p:Prt} (h:partB p=true) (hk:p.1=26):p.2.1=0:=by
 unfold partB at h
 simp only [Bool.and_eq_true,Bool.or_eq_true,decide_eq_true_eq] at h
 rw [hk] at h
 have e:arL 26=(0,false):=rfl
 rw [e] at h
 rcases h.2.2.1 with h1 | h1
 ·simpa using h1
 ·cases h1
theorem partB_stmt {p:Prt} (h:partB p=true) (hk:p.1=50):p.2.1=1:=by
 unfold partB at h
 simp only [Bool.and_eq_true,Bool.or_eq_true,decide_eq_true_eq] at h
 rw [hk] at h
 have e:arL 50=(1,false):=rfl
 rw [e] at h
 rcases h.2.2.1 with h1 | h1
 ·simpa using h1
 ·cases h1
theorem placesZ_ok {l:List Prt} {h:Hl} (h0:0≤placesZ l h):∀ p (hp:p<l.length),isPlace l[p] h=true→placeOK l h.2 p=true :=
 fun p hp=>placesF_ok l h l.length 0 0 (Int.le_refl _) (by omega) h0 p hp (by omega)
theorem ruleZ_inv {r:RuleM} (h:ruleZ r=0):name r.nm=true∧(1≤r.goal∧r.goal≤3)∧checkB r.fnd=true∧checkB r.by'=true∧(r.goal=3→kindAt r.by' 0=13)∧r.holes.length≤16∧sevN r.holes≤2∧∀ i,i<r.holes.length→holeB r i=true:=by
 unfold ruleZ at h
 split at h
 ·cases h
 ·rename_i h1
  split at h
  ·cases h
  ·rename_i h2
   split at h
   ·rename_i h3
    have h1:ruleTop r=true:=by simpa using h1
    unfold ruleTop at h1
    simp only [Bool.and_eq_true,Bool.not_eq_true',decide_eq_true_eq,Bool.and_eq_false_iff,decide_eq_false_iff_not] at h1
    obtain ⟨a1,a2,a3,a4,a5⟩:=h1
    refine ⟨a1,a2,a3,a4,fun e=>?_,by omega,by omega,h3⟩
    rcases a5 with a5 | a5
    ·exact absurd e a5
    ·exact Decidable.not_not.1 a5
   ·cases h
theorem holeB_inv {r:RuleM} {i:Nat} (hi:i<r.holes.length) (h:holeB r i=true):(∀ k (hk:k<i),(r.holes[k]).1≠(r.holes[i]).1)∧name (r.holes[i]).1=true∧(1≤(r.holes[i]).2∧(r.holes[i]).2≤7)∧1≤placesZ r.fnd r.holes[i]∧0≤placesZ r.by' r.holes[i]:=by
 unfold holeB at h
 rw [List.getElem?_eq_getElem hi] at h
 simp only [Bool.and_eq_true,decide_eq_true_eq,Bool.not_eq_true'] at h
 refine ⟨fun k hk e=>?_,h.2⟩
 have h1:=h.1
 rw [List.any_eq_false] at h1
 have h2:k<(r.holes.take i).length:=by rw [List.length_take];omega
 have:=h1 ((r.holes.take i)[k]) (List.getElem_mem h2)
 rw [List.getElem_take] at this
 simp [e] at this
theorem rule_holes {r:RuleM} (h:ruleZ r=0):HolesOK r.fnd r.holes∧HolesOK r.by' r.holes∧∀ i (hi:i<r.holes.length),∃ p,p<r.fnd.length∧holeOf r.fnd r.holes p=some i:=by
 obtain ⟨a1,a2,a3,a4,a5,a6,a7,a8⟩:=ruleZ_inv h
 have hu:∀ (a b:Nat) (ha:a<r.holes.length) (hb:b<r.holes.length),(r.holes[a]).1=(r.holes[b]).1→a=b:=by
  intro a b ha hb e
  rcases Nat.lt_trichotomy a b with c | c | c
  ·exact absurd e ((holeB_inv hb (a8 b hb)).1 a c)
  ·exact c
  ·exact absurd e.symm ((holeB_inv ha (a8 a ha)).1 b c)
 have f3:=checkB_inv a3
 have f4:=checkB_inv a4
 have H1:HolesOK r.fnd r.holes:=⟨f3.1,hu,fun p hp=>partB_leaf (f3.2 p hp),fun p hp=>partB_stmt (f3.2 p hp),fun i hi p hp hpl=>placesZ_ok (by have:=(holeB_inv hi (a8 i hi)).2.2.2.1;omega) p hp hpl⟩
 refine ⟨H1,⟨f4.1,hu,fun p hp=>partB_leaf (f4.2 p hp),fun p hp=>partB_stmt (f4.2 p hp),fun i hi p hp hpl=>placesZ_ok (holeB_inv hi (a8 i hi)).2.2.2.2 p hp hpl⟩,fun i hi=>?_⟩
 have h1:=(holeB_inv hi (a8 i hi)).2.2.2.1
 obtain ⟨p,hp,hpl⟩:=placesF_some r.fnd r.holes[i] r.fnd.length 0 0 (Int.le_refl _) (by omega) (by unfold placesZ at h1;omega)
 exact H1.place_at hi hp hpl
def fuelZ (f:List Prt):Nat:=2*f.length+1
abbrev Bnd:=ByteArray×Int×Int
theorem piece_well {l:List Prt} {us:List Nat} (hl:rowsB l=some us) {i:Nat} (hi:i<l.length):wellB (piece l i (endB l i))=true∧(piece l i (endB l i)).length=endB l i-i:=by
 obtain ⟨t,ht⟩:=piece_one hl hi
 have hg:=endB_gt hl hi
 have:=(rowsB_sum ht).1
 simp at this
 exact ⟨by rw [wellB_iff,ht,this],piece_len (by omega) hg.2⟩
theorem piece_sits {l:List Prt} {us:List Nat} (hl:rowsB l=some us) {a b:Nat} (hab:a≤b) {ts:List Nat} (hp:rowsB (piece l a b)=some ts):Sits (piece l a b) l a:=⟨⟨_,hp⟩,⟨_,hl⟩,⟨_,drop_piece hab⟩⟩
theorem up_of {l:List Prt} {us:List Nat} (hl:rowsB l=some us) {i k:Nat} (hi:i<l.length) (h1:i<k) (h2:k<endB l i) (h3:∀ j,i<j→j<k→endB l j≤k):upN l k=(i:Int):=by
 unfold upN
 have key:∀ m,i<m→m≤k→upI l k m=(i:Int):=by
  intro m
  induction m with
  | zero=>intro h;omega
  | succ m ih =>
   intro h4 h5
   rw [upI]
   by_cases e:m=i
   ·subst e;rw [if_pos h2]
   ·rw [if_neg (by have:=h3 m (by omega) (by omega);omega)]
    exact ih (by omega) (by omega)
 exact key k h1 (Nat.le_refl _)
theorem end_within {l:List Prt} {us:List Nat} (hl:rowsB l=some us) {i j:Nat} (hi:i<l.length) (h1:i≤j) (h2:j<endB l i):endB l j≤endB l i:=by
 have hp:=piece_well hl hi
 have hg:=endB_gt hl hi
 have hS:=piece_sits hl (show i≤endB l i by omega) (wellB_iff.1 hp.1)
 have hx:j-i<(piece l i (endB l i)).length:=by rw [hp.2];omega
 have e1:=hS.end_ hx
 have e2:=endB_gt (wellB_iff.1 hp.1) hx
 rw [hp.2] at e2
 rw [show j-i+i=j by omega] at e1
 omega
def kidAt (l:List Prt):Nat→Nat→Nat
 | 0,k=>k
 | n+1,k=>kidAt l n (endB l k)
theorem adv_kid {l:List Prt} {k stop:Nat}:∀ {n b:Nat},advT l n k stop=some b→kidAt l n k=b
 | 0,b,h=>by rw [advT] at h;cases h;rfl
 | n+1,b,h=>by
  rw [advT] at h
  split at h
  ·rw [kidAt]
   exact adv_kid h
  ·cases h
theorem kidAt_snoc (l:List Prt):∀ (n k:Nat),kidAt l (n+1) k=endB l (kidAt l n k)
 | 0,k=>rfl
 | n+1,k=>by rw [kidAt,kidAt_snoc l n (endB l k)];rfl
theorem kids_go {l:List Prt} {us:List Nat} (hl:rowsB l=some us) {i:Nat} (hi:i<l.length):∃ q:Nat,(l[i]).2.1=(q:Int)∧kidAt l q (i+1)=endB l i∧q≤l.length∧∀ c,c<q→i<kidAt l c (i+1)∧kidAt l c (i+1)<l.length:=by
 obtain ⟨q,h1,h2⟩:=adv_kids hl hi
 have hg:=endB_gt hl hi
 have hle:=adv_le hl _ _ _ _ hg.2 h2
 refine ⟨q,h1,adv_kid h2,by omega,fun c hc=>?_⟩
 have h3:=h2
 rw [show q=c+(q-c) by omega,adv_add] at h3
 cases hx:advT l c (i+1) (endB l i) with
 | none=>rw [hx] at h3;cases h3
 | some x =>
  rw [hx,Option.bind_some,show q-c=(q-c-1)+1 by omega,advT] at h3
  rw [adv_kid hx]
  split at h3
  ·have:=adv_le hl _ _ _ _ hg.2 hx
   omega
  ·cases h3
end Go.Proofs.YtmklemelgdilkaaGreatDoor
namespace Go.Proofs.YtmklemelgdilkaaGreatDoor
set_option linter.all false

def firstErr:List RuleM→Int
 | []=>0
 | r::t=>if ruleZ r=0 then firstErr t else ruleZ r
def findErr (rules:List RuleM) (l:List Prt):Int:=if wellB l=false then 8 else if 32<rules.length then 14 else firstErr rules
theorem firstErr_zero:∀ {rules:List RuleM},firstErr rules=0↔∀ r∈rules,ruleZ r=0
 | []=>by simp [firstErr]
 | r::t=>by
  rw [firstErr]
  by_cases h:ruleZ r=0
  ·rw [if_pos h,firstErr_zero];simp [h]
  ·rw [if_neg h];simp [h]
theorem findErr_zero {rules:List RuleM} {l:List Prt}:findErr rules l=0↔wellB l=true∧rules.length≤32∧∀ r∈rules,ruleZ r=0:=by
 unfold findErr
 cases hw:wellB l with
 | false=>simp
 | true =>
  rw [if_neg (by simp)]
  by_cases h:32<rules.length
  ·rw [if_pos h];constructor
   ·intro h;omega
   ·intro h;omega
  ·rw [if_neg h,firstErr_zero]
   constructor
   ·intro g;exact ⟨rfl,by omega,g⟩
   ·intro g;exact g.2.2
end Go.Proofs.YtmklemelgdilkaaGreatDoor
namespace Go.Proofs.YtmklemelgdilkaaGreatDoor
set_option linter.all false

def wL1:List (List UInt8):=[[124,124]]
def wL2:List (List UInt8):=[[38,38]]
def wL3:List (List UInt8):=[[61,61],[33,61],[60],[60,61],[62],[62,61]]
def wL4:List (List UInt8):=[[43],[45],[124],[94]]
def wL5:List (List UInt8):=[[42],[47],[37],[60,60],[62,62],[38],[38,94]]
def lvW (w:ByteArray):Nat:=if w.toList∈wL1 then 1 else if w.toList∈wL2 then 2 else if w.toList∈wL3 then 3 else if w.toList∈wL4 then 4 else if w.toList∈wL5 then 5 else 1
def levelZ (p:Prt):Nat:=if p.1=36∨p.1=35 then 6 else if p.1=37 then lvW p.2.2 else 7
def looseZ (p:Prt) (nth:Nat) (kid:Prt):Bool :=
 if p.1=37 then (decide (nth=0)&&decide (levelZ kid<levelZ p)) || (decide (nth=1)&&decide (levelZ kid≤levelZ p))
 else if p.1=35∨p.1=36 then decide (levelZ kid<6)
 else if 29≤p.1∧p.1≤34 then decide (nth=0)&&decide (levelZ kid<7)
 else if p.1=61 then decide (nth=2)&&decide (levelZ kid<7)
 else false
def leastZ (p:Prt) (nth:Nat):Nat :=
 if p.1=37 then (if nth=0 then levelZ p else if nth=1 then levelZ p+1 else 0)
 else if p.1=35∨p.1=36 then 6
 else if 29≤p.1∧p.1≤34 then (if nth=0 then 7 else 0)
 else if p.1=61 then (if nth=2 then 7 else 0)
 else 0
theorem least_loose (p:Prt) (nth:Nat) (kid:Prt):decide (levelZ kid<leastZ p nth)=looseZ p nth kid:=by
 unfold leastZ looseZ
 by_cases h1:p.1=37
 ·rw [if_pos h1,if_pos h1]
  by_cases h2:nth=0
  ·subst h2;simp
  ·rw [if_neg h2]
   by_cases h3:nth=1
   ·subst h3;simp;omega
   ·rw [if_neg h3];simp [h2,h3]
 ·rw [if_neg h1,if_neg h1]
  by_cases h2:p.1=35∨p.1=36
  ·rw [if_pos h2,if_pos h2]
  ·rw [if_neg h2,if_neg h2]
   by_cases h3:29≤p.1∧p.1≤34
   ·rw [if_pos h3,if_pos h3]
    by_cases h4:nth=0
    ·simp [h4]
    ·simp [h4]
   ·rw [if_neg h3,if_neg h3]
    by_cases h4:p.1=61
    ·rw [if_pos h4,if_pos h4]
     by_cases h5:nth=2
     ·simp [h5]
     ·simp [h5]
    ·rw [if_neg h4,if_neg h4];simp
abbrev PN:=Prt×Int
def paren:PN:=((28,1,ByteArray.empty),-1)
def brk (p:Prt) (nth:Nat) (kid:Prt):List PN:=if looseZ p nth kid then [paren] else []
section
variable (l:List Prt) (from':List Int)
def pnAt (i:Nat):PN:=(l.getD i (0,0,ByteArray.empty),from'.getD i 0)
def ptAt (i:Nat):Prt:=l.getD i (0,0,ByteArray.empty)
mutual
def gPart:Nat→Nat→List PN
 | 0,_=>[]
 | n+1,i=>pnAt l from' i::gKids n (ptAt l i) 0 (i+1) (endB l i)
def gKids:Nat→Prt→Nat→Nat→Nat→List PN
 | 0,_,_,_,_=>[]
 | n+1,p,nth,k,stop=>if k=stop then [] else brk p nth (ptAt l k)++(gPart n k++gKids n p (nth+1) (endB l k) stop)
end
def looseAt (j:Nat):Bool:=match upN l j with
 | .ofNat p=>looseZ (ptAt l p) ((kidsB l p).idxOf j) (ptAt l j)
 | .negSucc _=>false
def gOne (j:Nat):List PN:=(if looseAt l j then [paren] else [])++[pnAt l from' j]
def gSeg (a b:Nat):List PN:=(List.range' a (b-a)).flatMap (gOne l from')
theorem gSeg_add {a b c:Nat} (h1:a≤b) (h2:b≤c):gSeg l from' a c=gSeg l from' a b++gSeg l from' b c:=by
 unfold gSeg
 rw [← List.flatMap_append,show c-a=(b-a)+(c-b) by omega]
 congr 1
 have:=List.range'_append (s:=a) (m:=b-a) (n:=c-b) (step:=1)
 rw [Nat.one_mul,show a+(b-a)=b by omega] at this
 exact this.symm
theorem gSeg_one (a:Nat):gSeg l from' a (a+1)=gOne l from' a:=by
 unfold gSeg
 rw [show a+1-a=1 by omega]
 simp [List.range'_succ]
theorem gSeg_nil (a:Nat):gSeg l from' a a=[]:=by unfold gSeg;rw [Nat.sub_self];rfl
variable {l}
theorem kids_list {us:List Nat} (hl:rowsB l=some us) {i:Nat} (hi:i<l.length):∃ q,(l[i]).2.1=((q:Nat):Int)∧advT l q (i+1) (endB l i)=some (endB l i)∧(kidsB l i).length=q∧∀ n,n<q→(kidsB l i)[n]?=some (kidAt l n (i+1)):=by
 obtain ⟨ts,q,h1,h2,h3,h4,h5⟩:=kids_facts hl hi
 obtain ⟨q',g1,g2⟩:=adv_kids hl hi
 obtain rfl:q=q':=by omega
 refine ⟨q,h2,g2,by rw [h5,List.length_take,starts_length];omega,fun n hn=>?_⟩
 have hk:∀ m n,n+m≤q→kidAt l m (i+1+(ts.take n).sum)=i+1+(ts.take (n+m)).sum:=by
  intro m
  induction m with
  | zero=>intro n _;rfl
  | succ m ih =>
   intro n hn
   obtain ⟨_,k2,_⟩:=kid_step hl h1 h3 (show n<q by omega)
   rw [kidAt,k2,ih (n+1) (by omega)]
   congr 3;omega
 have:=hk n 0 (by omega)
 simp only [List.take_zero,List.sum_nil,Nat.add_zero,Nat.zero_add] at this
 rw [this,h5,List.getElem?_take,if_pos hn]
 have hg:=starts_get ts (i+1) n (by omega)
 have hl2:=starts_length ts (i+1)
 rw [List.getD_eq_getElem?_getD,List.getElem?_eq_getElem (by omega)] at hg
 rw [List.getElem?_eq_getElem (by omega)]
 simpa using hg
theorem kid_mono {us:List Nat} (hl:rowsB l=some us) {stop k:Nat} (hs:stop≤l.length) {n m b c:Nat} (hb:advT l n k stop=some b) (hc:advT l m k stop=some c) (h:n<m):b<c:=by
 rw [show m=n+(m-n) by omega,adv_add,hb,Option.bind_some] at hc
 have:=adv_le hl _ _ _ _ hs hc
 omega
theorem loose_kid {us:List Nat} (hl:rowsB l=some us) {i:Nat} (hi:i<l.length) {n k:Nat} (hk:advT l n (i+1) (endB l i)=some k) (hlt:k<endB l i):looseAt l k=looseZ (ptAt l i) n (ptAt l k):=by
 obtain ⟨q,h1,h2,h3,h4⟩:=kids_list hl hi
 have hg:=endB_gt hl hi
 have hle:=adv_le hl _ _ _ _ hg.2 hk
 obtain ⟨r1,r2,r3⟩:=adv_rest hl hg.2 h2 hk
 have hnq:n<q:=by
  rcases Nat.lt_or_ge n q with c | c
  ·exact c
  ·exfalso
   have:q=n:=by omega
   subst this
   rw [h2] at hk;cases hk;omega
 have hup:upN l k=(i:Int):=by
  apply up_of hl hi (by omega) hlt
  intro j hj1 hj2
  -- j lies within an earlier kid
  have key:∀ m b,advT l m (i+1) (endB l i)=some b→∀ j,i<j→j<b→endB l j≤b:=by
   intro m
   induction m with
   | zero=>intro b hb j h1 h2;rw [advT] at hb;cases hb;omega
   | succ m ih =>
    intro b hb j g1 g2
    rw [adv_add l m 1] at hb
    cases hm:advT l m (i+1) (endB l i) with
    | none=>rw [hm] at hb;cases hb
    | some c =>
     rw [hm,Option.bind_some,advT] at hb
     split at hb
     ·rename_i hc
      rw [advT] at hb
      cases hb
      rcases Nat.lt_trichotomy j c with c1 | c1 | c1
      ·have h1:=ih c hm j g1 c1
       have:=(endB_gt hl (show c<l.length by omega)).1
       omega
      ·subst c1;exact Nat.le_refl _
      ·-- within the tree at c
       have hc1:c<l.length:=by omega
       have hp:=piece_well hl hc1
       have hgc:=endB_gt hl hc1
       have hS:=piece_sits hl (show c≤endB l c by omega) (wellB_iff.1 hp.1)
       have hx:j-c<(piece l c (endB l c)).length:=by rw [hp.2];omega
       have e1:=hS.end_ hx
       have e2:=endB_gt (wellB_iff.1 hp.1) hx
       rw [hp.2] at e2
       rw [show j-c+c=j by omega] at e1
       omega
     ·cases hb
  exact key n k hk j hj1 hj2
 unfold looseAt
 rw [hup]
 show looseZ (ptAt l i) ((kidsB l i).idxOf k) (ptAt l k)=_
 have e:(kidsB l i)[n]?=some k:=by rw [h4 n hnq,adv_kid hk]
 congr 1
 rw [List.idxOf,List.findIdx_eq (by rw [h3];exact hnq)]
 obtain ⟨hn',he⟩:=List.getElem?_eq_some_iff.1 e
 refine ⟨by simpa using he,fun j hj=>?_⟩
 have hjq:j<q:=by omega
 have ej:=h4 j hjq
 obtain ⟨_,he2⟩:=List.getElem?_eq_some_iff.1 ej
 rw [he2]
 simp only [beq_eq_false_iff_ne]
 intro e3
 have hadv:∃ b,advT l j (i+1) (endB l i)=some b:=by
  have:=h2
  rw [show q=j+(q-j) by omega,adv_add] at this
  cases hj':advT l j (i+1) (endB l i) with
  | none=>rw [hj'] at this;cases this
  | some b=>exact ⟨b,rfl⟩
 obtain ⟨b,hb⟩:=hadv
 have:=kid_mono hl hg.2 hb hk hj
 rw [adv_kid hb] at e3
 omega
variable (l)
theorem g_seg {us:List Nat} (hl:rowsB l=some us):∀ n,(∀ i,i<l.length→2*(endB l i-i)≤n→gPart l from' n i=pnAt l from' i::gSeg l from' (i+1) (endB l i)) ∧
  (∀ i k nth,i<l.length→advT l nth (i+1) (endB l i)=some k→k≤endB l i→2*(endB l i-k)+1≤n→gKids l from' n (ptAt l i) nth k (endB l i)=gSeg l from' k (endB l i))
 | 0=>⟨(fun i hi h=>by have:=(endB_gt hl hi).1;omega),(fun _ _ _ _ _ _ h=>by omega)⟩
 | n+1=>by
  obtain ⟨h1,h2⟩:=g_seg hl n
  constructor
  ·intro i hi h
   have hg:=endB_gt hl hi
   rw [gPart,h2 i (i+1) 0 hi rfl (by omega) (by omega)]
  ·intro i k nth hi hk hle h
   have hg:=endB_gt hl hi
   rw [gKids]
   split
   ·rename_i e;subst e;rw [gSeg_nil]
   ·rename_i e
    have hkl:k<endB l i:=by omega
    have hgk:=endB_gt hl (show k<l.length by omega)
    obtain ⟨q,_,hq⟩:=adv_kids hl hi
    obtain ⟨_,_,r3⟩:=adv_rest hl hg.2 hq hk
    obtain ⟨_,J,_,hJ⟩:=adv_next r3 e
    have hle2:=adv_le hl _ _ _ _ hg.2 hJ
    have hk2:advT l (nth+1) (i+1) (endB l i)=some (endB l k):=by rw [adv_add,hk,Option.bind_some,advT,if_pos hkl,advT]
    rw [h1 k (by omega) (by omega),h2 i (endB l k) (nth+1) hi hk2 (by omega) (by omega)]
    rw [gSeg_add l from' (show k≤k+1 by omega) (show k+1≤endB l i by omega),gSeg_one,gSeg_add l from' (show k+1≤endB l k by omega) (show endB l k≤endB l i by omega)]
    unfold gOne brk
    rw [loose_kid hl hi hk hkl]
    simp
def guardZ:List PN:=gSeg l from' 0 l.length
theorem guard_part (hl:wellB l=true):gPart l from' (2*l.length) 0=guardZ l from':=by
 have h0:=well_zero hl
 have hw:=well_rows hl
 rw [(g_seg l from' hw _).1 0 h0.1 (by rw [h0.2];omega),h0.2]
 unfold guardZ
 rw [gSeg_add l from' (show 0≤1 by omega) (show 1≤l.length by omega),gSeg_one]
 unfold gOne looseAt
 have:upN l 0=Int.negSucc 0:=rfl
 rw [this]
 rfl
end
section
variable (l:List Prt) (from':List Int)
end
end Go.Proofs.YtmklemelgdilkaaGreatDoor
namespace Go.Proofs.YtmklemelgdilkaaGreatDoor
set_option linter.all false
open Go.RowKit

theorem Row.cells {w w':World} {v:Value} {n sz:Nat} {cs:List Value} (h:Row w v n sz cs) (hb:Below w.heap.size w w') (hn:0<n) :
  ∃ b off cap,v=.slice (some ⟨b,off,none⟩) n cap∧n≤cap∧b<w.heap.size∧∀ i,i<n*sz→w'.cell? ⟨b,off+i,none⟩=cs[i]?:=by
 obtain ⟨h1,a,cap,hv,hc,hz,h2⟩:=h
 obtain ⟨b,off,ha,hlt,hcell⟩:=h2 hn
 subst ha
 exact ⟨b,off,cap,hv,hc,hlt,fun i hi=>by rw [hb.cell (p:=⟨b,off+i,none⟩) hlt];exact hcell i hi⟩
theorem Row.shape {w:World} {v:Value} {n sz:Nat} {cs:List Value} (h:Row w v n sz cs):∃ a cap,v=.slice a n cap∧n≤cap:=by
 obtain ⟨_,a,cap,hv,hc,_⟩:=h;exact ⟨a,cap,hv,hc⟩
theorem flat_at {α:Type} {g:α→List Value} {sz:Nat} (hg:∀ x,(g x).length=sz):∀ (l:List α) (i j:Nat) (hi:i<l.length),j<sz→(l.flatMap g)[i*sz+j]?=(g l[i])[j]?
 | x::l,0,j,_,hj=>by
  rw [List.flatMap_cons,Nat.zero_mul,Nat.zero_add,List.getElem?_append_left (by rw [hg];exact hj)];rfl
 | x::l,i+1,j,hi,hj=>by
  have h1:(g x).length≤(i+1)*sz+j:=by rw [hg,Nat.add_mul];omega
  rw [List.flatMap_cons,List.getElem?_append_right h1,hg,show (i+1)*sz+j-sz=i*sz+j by rw [Nat.add_mul];omega]
  rw [flat_at hg l i j (by simpa using hi) hj]
  rfl
theorem flat_len {α:Type} {g:α→List Value} {sz:Nat} (hg:∀ x,(g x).length=sz):∀ l:List α,(l.flatMap g).length=l.length*sz
 | []=>by simp
 | x::l=>by rw [List.flatMap_cons,List.length_append,hg,flat_len hg l,List.length_cons,Nat.add_mul];omega
def holeV (h:Hl):List Value:=[.string h.1,.int .u8 (h.2:Int)]
def holesV (hs:List Hl):List Value:=hs.flatMap holeV
def HoleRow (w:World) (v:Value) (hs:List Hl):Prop:=Row w v hs.length 2 (holesV hs)
theorem HoleRow.below {w w':World} {v:Value} {hs:List Hl} (h:HoleRow w v hs) (hb:Below w.heap.size w w'):HoleRow w' v hs:=Row.below h hb
theorem HoleRow.at {w w':World} {a:Option Addr} {n cap:Nat} {hs:List Hl} (h:HoleRow w (.slice a n cap) hs) (hb:Below w.heap.size w w') (hp:0<hs.length) :
  ∃ b off,a=some ⟨b,off,none⟩∧n=hs.length∧hs.length≤cap∧b<w.heap.size∧∀ i (hi:i<hs.length),w'.cell? ⟨b,off+i*2,none⟩=some (.string hs[i].1)∧w'.cell? ⟨b,off+i*2+1,none⟩=some (.int .u8 (hs[i].2:Int)):=by
 obtain ⟨b,off,cap',hv,hc,hlt,hcell⟩:=Row.cells h hb hp
 simp only [Value.slice.injEq] at hv
 obtain ⟨rfl,rfl,rfl⟩:=hv
 refine ⟨b,off,rfl,rfl,hc,hlt,fun i hi=>⟨?_,?_⟩⟩
 ·rw [hcell _ (by omega)]
  have:=flat_at (g:=holeV) (sz:=2) (fun _=>rfl) hs i 0 hi (by omega)
  rw [Nat.add_zero] at this
  exact this
 ·rw [Nat.add_assoc,hcell _ (by omega)]
  exact flat_at (g:=holeV) (sz:=2) (fun _=>rfl) hs i 1 hi (by omega)
def bindV (b:Bnd):List Value:=[.string b.1,.int .i64 b.2.1,.int .i64 b.2.2]
def bindsV (bs:List Bnd):List Value:=bs.flatMap bindV
def BindRow (w:World) (v:Value) (bs:List Bnd):Prop:=Row w v bs.length 3 (bindsV bs)
theorem BindRow.below {w w':World} {v:Value} {bs:List Bnd} (h:BindRow w v bs) (hb:Below w.heap.size w w'):BindRow w' v bs:=Row.below h hb
theorem BindRow.at {w w':World} {a:Option Addr} {n cap:Nat} {bs:List Bnd} (h:BindRow w (.slice a n cap) bs) (hb:Below w.heap.size w w') (hp:0<bs.length) :
  ∃ b off,a=some ⟨b,off,none⟩∧n=bs.length∧bs.length≤cap∧b<w.heap.size∧∀ i (hi:i<bs.length),w'.cell? ⟨b,off+i*3,none⟩=some (.string bs[i].1)∧w'.cell? ⟨b,off+i*3+1,none⟩=some (.int .i64 bs[i].2.1)∧w'.cell? ⟨b,off+i*3+2,none⟩=some (.int .i64 bs[i].2.2):=by
 obtain ⟨b,off,cap',hv,hc,hlt,hcell⟩:=Row.cells h hb hp
 simp only [Value.slice.injEq] at hv
 obtain ⟨rfl,rfl,rfl⟩:=hv
 refine ⟨b,off,rfl,rfl,hc,hlt,fun i hi=>⟨?_,?_,?_⟩⟩
 ·rw [hcell _ (by omega)]
  have:=flat_at (g:=bindV) (sz:=3) (fun _=>rfl) bs i 0 hi (by omega)
  rw [Nat.add_zero] at this
  exact this
 ·rw [Nat.add_assoc,hcell _ (by omega)]
  exact flat_at (g:=bindV) (sz:=3) (fun _=>rfl) bs i 1 hi (by omega)
 ·rw [Nat.add_assoc,hcell _ (by omega)]
  exact flat_at (g:=bindV) (sz:=3) (fun _=>rfl) bs i 2 hi (by omega)
def ruleAgg (r:RuleM) (vh vf vb:Value):Value:=.agg #[.string r.nm,.int .u8 (r.goal:Int),vh,vf,vb]
structure RuleIn (w:World) (r:RuleM) (vh vf vb:Value):Prop where
 H:HoleRow w vh r.holes
 F:PartRow w vf r.fnd
 B:PartRow w vb r.by'
theorem RuleIn.below {w w':World} {r:RuleM} {vh vf vb:Value} (h:RuleIn w r vh vf vb) (hb:Below w.heap.size w w'):RuleIn w' r vh vf vb:=⟨h.H.below hb,h.F.below hb,h.B.below hb⟩
def SmallL (l:List Prt):Prop:=l.length≤1048576∧∀ p∈l,p.1<256∧p.2.2.size≤1048576
structure SmallR (r:RuleM):Prop where
 n:r.nm.size≤1048576
 g:r.goal<256
 h:r.holes.length≤1048576∧∀ x∈r.holes,x.1.size≤1048576∧x.2<256
 f:SmallL r.fnd
 b:SmallL r.by'
end Go.Proofs.YtmklemelgdilkaaGreatDoor
namespace Go.Proofs.YtmklemelgdilkaaGreatDoor
set_option linter.all false

def UpInv (l:List Prt):List (Nat×Int)→Nat→Prop
 | [],pos=>pos=l.length∨pos=0
 | (o,c)::st,pos=>o<pos∧0≤c∧advT l c.toNat pos (endB l o)=some (endB l o)∧endB l o≤l.length∧(∀ j,o<j→j<pos→endB l j≤pos)∧UpInv l st (endB l o)
theorem UpInv.pop {l:List Prt} {o:Nat} {st:List (Nat×Int)} {pos:Nat} (h:UpInv l ((o,0)::st) pos):UpInv l st pos:=by
 obtain ⟨_,_,h3,_,_,h6⟩:=h
 rw [show (0:Int).toNat=0 by rfl,advT] at h3
 have:pos=endB l o:=by simpa using h3
 rw [this];exact h6
theorem UpInv.top {l:List Prt} {us:List Nat} (hl:rowsB l=some us) {o:Nat} {c:Int} {st:List (Nat×Int)} {pos:Nat} (h:UpInv l ((o,c)::st) pos) (hc:c≠0):upN l pos=(o:Int)∧o<pos∧pos<endB l o:=by
 obtain ⟨h1,h2,h3,h4,h5,_⟩:=h
 have hlt:pos<endB l o:=by
  obtain ⟨k,hk⟩:∃ k,c.toNat=k+1:=⟨c.toNat-1,by omega⟩
  rw [hk,advT] at h3
  split at h3
  ·assumption
  ·cases h3
 exact ⟨up_of hl (by omega) h1 hlt h5,h1,hlt⟩
theorem UpInv.push {l:List Prt} {us:List Nat} (hl:rowsB l=some us) {o:Nat} {c:Int} {st:List (Nat×Int)} {i:Nat} (h:UpInv l ((o,c)::st) i) (hc:c≠0) (hi:i<l.length):UpInv l ((i,(l[i]).2.1)::(o,c-1)::st) (i+1):=by
 obtain ⟨g1,g2,g3⟩:=h.top hl hc
 obtain ⟨h1,h2,h3,h4,h5,h6⟩:=h
 obtain ⟨q,k1,k2⟩:=adv_kids hl hi
 have hg:=endB_gt hl hi
 refine ⟨by omega,by omega,by rw [k1];exact k2,hg.2,fun j a b=>by omega,by omega,by omega,?_,h4,fun j a b=>?_,h6⟩
 ·obtain ⟨k,hk⟩:∃ k,c.toNat=k+1:=⟨c.toNat-1,by omega⟩
  rw [hk,advT,if_pos g3] at h3
  rw [show (c-1).toNat=k by omega];exact h3
 ·rcases Nat.lt_or_ge j i with a1 | a1
  ·have:=h5 j a a1;omega
  ·exact end_within hl hi a1 b
theorem UpInv.root {l:List Prt} (hl:wellB l=true) (h0:0<l.length):UpInv l [(0,(l[0]).2.1)] 1:=by
 have hw:=well_rows hl
 have hz:=well_zero hl
 obtain ⟨q,k1,k2⟩:=adv_kids hw h0
 exact ⟨by omega,by omega,by rw [k1];exact k2,by omega,fun j a b=>by omega,Or.inl hz.2⟩
theorem UpInv.len {l:List Prt}:∀ {st:List (Nat×Int)} {pos:Nat},UpInv l st pos→∀ x∈st,x.1<l.length∧0≤x.2
 | [],_,_,x,hx=>by cases hx
 | (o,c)::st,pos,h,x,hx=>by
  obtain ⟨h1,h2,h3,h4,h5,h6⟩:=h
  rcases List.mem_cons.1 hx with rfl | hx
  ·refine ⟨?_,h2⟩
   show o<l.length
   apply Classical.byContradiction
   intro hn
   have:endB l o=o:=by
    unfold endB headSize
    rw [List.drop_eq_nil_of_le (by omega),rowsB_nil];rfl
   cases hc:c.toNat with
   | zero =>
    rw [hc,advT] at h3
    have:=Option.some.inj h3
    omega
   | succ k =>
    rw [hc,advT] at h3
    split at h3
    ·omega
    ·cases h3
  ·exact UpInv.len h6 x hx
end Go.Proofs.YtmklemelgdilkaaGreatDoor
namespace Go.Proofs.YtmklemelgdilkaaGreatDoor
set_option linter.all false
open Go.RowKit

def e2Rel (l:List Prt) (w:World) (iv:Value) (wr:World):Prop :=
 ∃ (k:Nat) (E:List Int),iv=.int .i64 ((k:Int)-1)∧k≤l.length∧E.length=l.length∧(∀ j,k≤j→j<l.length→E.getD j 0=(endB l j:Int)) ∧
  wr.heap[w.heap.size]?=some (.cells (E.map (Value.int .i64)).toArray 3 (0,0))∧Below w.heap.size w wr
def e2In (l:List Prt) (w:World) (E:List Int) (i q:Nat) (cv:Value) (wr:World):Prop :=
 ∃ c:Nat,cv=.int .i64 (c:Int)∧c≤q∧wr.heap[w.heap.size]?=some (.cells ((E.set i (kidAt l c (i+1):Int)).map (Value.int .i64)).toArray 3 (0,0))∧Below w.heap.size w wr
@[irreducible] def ends2Post (l:List Prt) (w0:World) (e:Ending) (w':World):Prop :=
 ∃ v,e=.returned v∧Below w0.heap.size w0 w'∧w'.ownsRow w0.heap.size 3 1 v l.length ((endsL l).map (Value.int .i64))
theorem owns_block {w:World} {B g:Nat} {n:Nat} {E:List Int} (h:w.heap[g]?=some (.cells (E.map (Value.int .i64)).toArray 3 (0,0))) (hB:B≤g) (hn:E.length=n) (hm:n≤1000000000):w.ownsRow B 3 1 (.slice (some ⟨g,0,none⟩) n n) n (E.map (Value.int .i64)) :=
 ⟨by simp [hn],Or.inr ⟨g,n,_,rfl,hB,h,Nat.le_refl _,by unfold maxLen;omega,by simp [hn],by simp;rw [List.take_of_length_le (by simp [hn])]⟩⟩
end Go.Proofs.YtmklemelgdilkaaGreatDoor
