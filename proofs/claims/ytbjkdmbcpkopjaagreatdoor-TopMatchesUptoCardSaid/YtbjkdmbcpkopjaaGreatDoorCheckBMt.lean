/- Layer 11: which words a kind may have; the program's spelt, walked. -/
import Derived.Test.YtbjkdmbcpkopjaaGreatDoorCoreMt
import Derived.Test.YtbjkdmbcpkopjaaGreatDoorMatchPMt
import Derived.Test.YtbjkdmbcpkopjaaGreatDoorU8bMt
import Derived.Test.YtbjkdmbcpkopjaaGreatDoorQuoted6Mt
import Derived.Test.YtbjkdmbcpkopjaaGreatDoorNum4Mt
import Derived.Test.YtbjkdmbcpkopjaaGreatDoorU8Mt
import Derived.Test.YtbjkdmbcpkopjaaGreatDoorTermMt
import Derived.Test.YtbjkdmbcpkopjaaGreatDoorMatchP2Mt
namespace Go.Proofs.YtbjkdmbcpkopjaaGreatDoor
set_option maxRecDepth 100000
set_option maxHeartbeats 32000000
set_option linter.all false
open Go.RowKit

theorem zMq (x:List UInt8):(⟨x.toArray⟩:ByteArray).toList=x:=by rw [ByteArray.toList_eq]
def sptB (k:Nat) (s:ByteArray):Bool :=
 if k=26 then name s else if k=27 then (decide ((value s).2=0) || decide (kindL (zA s)≠0)) else (s.toList.isEmpty&&noneT k) || decide (s.toList∈wordsT k)
theorem zDa {k:Nat} (s:ByteArray) (h1:k≠26) (h2:k≠27):sptB k s=((s.toList.isEmpty&&noneT k) || decide (s.toList∈wordsT k)):=by unfold sptB;rw [iN h1,iN h2]
theorem zTt {k:Nat} (s:ByteArray) (h:k=3∨k=4∨k=36∨k=37∨k=45∨k=52∨k=53∨k=57):sptB k s=(!s.toList.isEmpty&&(!Lib.contains s.toList [32]&&Lib.contains (wordsP k) (32::(s.toList++[32])))):=by
 have e:wordsP k=jn (wordsT k):=by rcases h with rfl | rfl | rfl | rfl | rfl | rfl | rfl | rfl <;> rfl
 have hn:noneT k=false:=by rcases h with rfl | rfl | rfl | rfl | rfl | rfl | rfl | rfl <;> rfl
 rw [zDa s (by omega) (by omega),hn,Bool.and_false,Bool.false_or,e,← zXb (zMr k)]
 congr 1
 cases s.toList with
 | nil=>rfl
 | cons a l=>simp
theorem zWx {k:Nat} (s:ByteArray) (h:¬ (k=26∨k=27∨k=5∨k=7∨k=15∨k=34∨k=66)) (hw:wordsP k=[]):sptB k s=s.toList.isEmpty:=by
 have hk:¬ (k=3∨k=4)∧k≠36∧k≠37∧k≠45∧k≠52∧k≠53∧k≠57:=by
  unfold wordsP at hw;have ne:∀ ws,jn ws≠[]:=fun ws=>by obtain ⟨t,ht⟩:=zKo ws;rw [ht];simp
  by_cases h1:k=3∨k=4
  ·rw [iP h1] at hw;exact absurd hw (ne _)
  rw [iN h1] at hw;by_cases h2:k=36
  ·rw [iP h2] at hw;exact absurd hw (ne _)
  rw [iN h2] at hw;by_cases h3:k=37
  ·rw [iP h3] at hw;exact absurd hw (ne _)
  rw [iN h3] at hw;by_cases h4:k=45
  ·rw [iP h4] at hw;exact absurd hw (ne _)
  rw [iN h4] at hw;by_cases h5:k=52
  ·rw [iP h5] at hw;exact absurd hw (ne _)
  rw [iN h5] at hw;by_cases h6:k=53
  ·rw [iP h6] at hw;exact absurd hw (ne _)
  rw [iN h6] at hw;by_cases h7:k=57
  ·rw [iP h7] at hw;exact absurd hw (ne _)
  exact ⟨h1,h2,h3,h4,h5,h6,h7⟩
 rw [zDa s (by omega) (by omega)];have hn:noneT k=true:=by unfold noneT;simp;omega
 have ht:wordsT k=[]:=by
  unfold wordsT;rw [iN (by omega),iN (by omega),iN (by omega),iN (by omega),iN (by omega),iN (by omega),iN (by omega),iN (by omega),iN (by omega),iN (by omega),iN (by omega)]
 rw [hn,ht];simp
theorem zWy (k:Nat):wordsP k=[]∨((k=3∨k=4∨k=36∨k=37∨k=45∨k=52∨k=53∨k=57)∧wordsP k≠[]):=by
 by_cases h:k=3∨k=4∨k=36∨k=37∨k=45∨k=52∨k=53∨k=57
 ·refine Or.inr ⟨h,?_⟩;rcases h with rfl | rfl | rfl | rfl | rfl | rfl | rfl | rfl <;> decide
 ·left;unfold wordsP;rw [iN (by omega),iN (by omega),iN (by omega),iN (by omega),iN (by omega),iN (by omega),iN (by omega)]
theorem zQb (k:Nat) (hk:k<256) (s:ByteArray) (w:World) (hT:Tabs w) (hM:MaxC w) (hs:s.size≤2147483647) :
  Calls Tryz.prog 74 #[.int .u8 (k:Int),.string s] w fun e w'=>e=.returned (.bool (sptB k s))∧Below w.heap.size w w':=by
 have HQ:Hid (∀ x w',sptB k s=x→Below w.heap.size w w'→(fun (e:Ending) w'=>e=.returned (.bool (sptB k s))∧Below w.heap.size w w') (.returned (.bool x)) w'):=Hd fun x w' h hb=>⟨by rw [h],hb⟩
 generalize (fun (e:Ending) w'=>e=.returned (.bool (sptB k s))∧Below w.heap.size w w')=Q at *;have HM:=Hd hM;clear hM;by_cases k26:k=26
 ·have C1:=Hd (kM s w hT);have HV:=Hd (show sptB k s=name s by unfold sptB;rw [iP k26]);have f26:((k:Int) == 26)=true:=by rw [beq_iff_eq];omega
  clear k26;go_enter Tryz.func74,Tryz.ntmps74;go_wp2_with fail;refine C1.out.mono ?_;rintro e w1 ⟨rfl,hb⟩;generalize name s=x at *;go_wp2_with fail;exact HQ.out _ _ HV.out hb
 have f26:((k:Int) == 26)=false:=by rw [bE];omega
 by_cases k27:k=27
 ·have C1:=Hd (zLv s w hT HM.out hs);have C2:=Hd (fun w=>zEh s hs w);have HV:=Hd (show sptB k s=(decide ((value s).2=0) || decide (kindL (zA s)≠0)) by unfold sptB;rw [iN k26,iP k27]);have f27:((k:Int) == 27)=true:=by rw [beq_iff_eq];omega
  clear k26 k27;go_enter Tryz.func74,Tryz.ntmps74;go_wp2_with fail;refine C1.out.mono ?_;intro e w1 h1;unfold valuePost at h1;obtain ⟨rfl,hb⟩:=h1;have HB:=Hd hb;clear hb;generalize value s=v at *;obtain ⟨v1,v2⟩:=v;generalize kindL (zA s)=q at *;simp only [] at HV;by_cases hv:v2=0
  ·have hvb:(v2 == 0)=true:=by rw [beq_iff_eq];exact hv
   have HX:=Hd (show sptB k s=true by rw [HV.out,decide_eq_true hv,Bool.true_or]);clear hv HV;go_wp2_with fail;exact HQ.out _ _ HX.out HB.out
  ·have hvb:(v2 == 0)=false:=by rw [bE];exact hv
   have HX:=Hd (show sptB k s=decide (q≠0) by rw [HV.out,decide_eq_false hv,Bool.false_or]);clear hv HV;go_wp2_with fail;refine mB (C2.out _) HB.out fun w2 HB2=>?_;go_wp2_with fail;exact HQ.out _ _ (by rw [HX.out,Bool.eq_iff_iff];simp;try omega) HB2.out
 have f27:((k:Int) == 27)=false:=by rw [bE];omega
 have HO:=Hd (zDa s k26 k27);by_cases kk:k=5∨k=5
 ·have f5:((k:Int) == 5)=true:=by rw [beq_iff_eq];omega
  have HV:=Hd (show sptB k s=(s.toList.isEmpty || (s.toList == [46])) by rw [HO.out,Bool.eq_iff_iff];rcases kk with rfl | rfl <;> simp [noneT,wordsT]);clear HO kk k26 k27;by_cases he:s.toList.isEmpty=true
  ·have HX:=Hd (show sptB k s=true by rw [HV.out,he];rfl);have he2:s.toList=[]:=by simpa using he
   go_enter Tryz.func74,Tryz.ntmps74;go_wp2_with fail;all_goals exact HQ.out _ _ HX.out (bR _ _)
  ·have he1:s.toList.isEmpty=false:=by simpa using he
   have HX:=Hd (show sptB k s=(s.toList == [46]) by rw [HV.out,he1,Bool.false_or]);clear he;go_enter Tryz.func74,Tryz.ntmps74;go_wp2_with fail;all_goals exact HQ.out _ _ HX.out (bR _ _)
 have k5:k≠5:=by omega
 have f5:((k:Int) == 5)=false:=by rw [bE];omega
 clear kk;by_cases kk:k=7∨k=7
 ·have f7:((k:Int) == 7)=true:=by rw [beq_iff_eq];omega
  have HV:=Hd (show sptB k s=(s.toList.isEmpty || (s.toList == [61])) by rw [HO.out,Bool.eq_iff_iff];rcases kk with rfl | rfl <;> simp [noneT,wordsT]);clear HO kk k26 k27 k5;by_cases he:s.toList.isEmpty=true
  ·have HX:=Hd (show sptB k s=true by rw [HV.out,he];rfl);have he2:s.toList=[]:=by simpa using he
   go_enter Tryz.func74,Tryz.ntmps74;go_wp2_with fail;all_goals exact HQ.out _ _ HX.out (bR _ _)
  ·have he1:s.toList.isEmpty=false:=by simpa using he
   have HX:=Hd (show sptB k s=(s.toList == [61]) by rw [HV.out,he1,Bool.false_or]);clear he;go_enter Tryz.func74,Tryz.ntmps74;go_wp2_with fail;all_goals exact HQ.out _ _ HX.out (bR _ _)
 have k7:k≠7:=by omega
 have f7:((k:Int) == 7)=false:=by rw [bE];omega
 clear kk;by_cases kk:k=15∨k=15
 ·have f15:((k:Int) == 15)=true:=by rw [beq_iff_eq];omega
  have HV:=Hd (show sptB k s=(s.toList.isEmpty || (s.toList == [46,46,46])) by rw [HO.out,Bool.eq_iff_iff];rcases kk with rfl | rfl <;> simp [noneT,wordsT]);clear HO kk k26 k27 k5 k7;by_cases he:s.toList.isEmpty=true
  ·have HX:=Hd (show sptB k s=true by rw [HV.out,he];rfl);have he2:s.toList=[]:=by simpa using he
   go_enter Tryz.func74,Tryz.ntmps74;go_wp2_with fail;all_goals exact HQ.out _ _ HX.out (bR _ _)
  ·have he1:s.toList.isEmpty=false:=by simpa using he
   have HX:=Hd (show sptB k s=(s.toList == [46,46,46]) by rw [HV.out,he1,Bool.false_or]);clear he;go_enter Tryz.func74,Tryz.ntmps74;go_wp2_with fail;all_goals exact HQ.out _ _ HX.out (bR _ _)
 have k15:k≠15:=by omega
 have f15:((k:Int) == 15)=false:=by rw [bE];omega
 clear kk;by_cases kk:k=34∨k=34
 ·have f34:((k:Int) == 34)=true:=by rw [beq_iff_eq];omega
  have HV:=Hd (show sptB k s=(s.toList.isEmpty || (s.toList == [46,46,46])) by rw [HO.out,Bool.eq_iff_iff];rcases kk with rfl | rfl <;> simp [noneT,wordsT]);clear HO kk k26 k27 k5 k7 k15;by_cases he:s.toList.isEmpty=true
  ·have HX:=Hd (show sptB k s=true by rw [HV.out,he];rfl);have he2:s.toList=[]:=by simpa using he
   go_enter Tryz.func74,Tryz.ntmps74;go_wp2_with fail;all_goals exact HQ.out _ _ HX.out (bR _ _)
  ·have he1:s.toList.isEmpty=false:=by simpa using he
   have HX:=Hd (show sptB k s=(s.toList == [46,46,46]) by rw [HV.out,he1,Bool.false_or]);clear he;go_enter Tryz.func74,Tryz.ntmps74;go_wp2_with fail;all_goals exact HQ.out _ _ HX.out (bR _ _)
 have k34:k≠34:=by omega
 have f34:((k:Int) == 34)=false:=by rw [bE];omega
 clear kk;by_cases k66:k=66
 ·have f66:((k:Int) == 66)=true:=by rw [beq_iff_eq];omega
  have HV:=Hd (show sptB k s=(s.toList.isEmpty || ((s.toList == [61]) || (s.toList == [58,61]))) by rw [HO.out,Bool.eq_iff_iff,k66];simp [noneT,wordsT]);clear HO k66 k26 k27 k5 k7 k15 k34;by_cases he:s.toList.isEmpty=true
  ·have HX:=Hd (show sptB k s=true by rw [HV.out,he];rfl);have he2:s.toList=[]:=by simpa using he
   go_enter Tryz.func74,Tryz.ntmps74;go_wp2_with fail;all_goals exact HQ.out _ _ HX.out (bR _ _)
  ·have he1:s.toList.isEmpty=false:=by simpa using he
   clear he;cases hq:(s.toList == [61]) with
   | true =>
    have HX:=Hd (show sptB k s=true by rw [HV.out,he1,hq];rfl);clear HV;go_enter Tryz.func74,Tryz.ntmps74;go_wp2_with fail;all_goals exact HQ.out _ _ HX.out (bR _ _)
   | false =>
    have HX:=Hd (show sptB k s=(s.toList == [58,61]) by rw [HV.out,he1,hq];rfl);clear HV;go_enter Tryz.func74,Tryz.ntmps74;go_wp2_with fail;all_goals exact HQ.out _ _ HX.out (bR _ _)
 have f66:((k:Int) == 66)=false:=by rw [bE];omega
 have C1:=Hd (zQa k hk w);rcases zWy k with hw | ⟨hw,hne⟩
 ·have HX:=Hd (zWx s (by omega) hw);rw [hw] at C1;clear hw HO k66 k26 k27 k5 k7 k15 k34;go_enter Tryz.func74,Tryz.ntmps74;go_wp2_with fail;refine C1.out.mono ?_;rintro e w1 ⟨rfl,rfl⟩;go_wp2_with fail;exact HQ.out _ _ HX.out (bR _ _)
 ·have HV:=Hd (zTt s hw);obtain ⟨m,hm,_⟩:=HM.out;have hAl:((⟨(wordsP k).toArray⟩:ByteArray).toList.isEmpty)=false:=by
   rw [zMq];cases h:wordsP k with
   | nil=>exact absurd h hne
   | cons a l=>rfl
  have hAz:(⟨(wordsP k).toArray⟩:ByteArray).size≤1000:=by
   have:∀ k,k<58→(wordsP k).length≤1000:=by decide
   show (wordsP k).toArray.size≤1000
   simpa using this k (by omega)
  have CB1:=Hd (Tryz.strings_Contains s ⟨#[32]⟩ m w (by omega) hm);have CB2:=Hd (Tryz.strings_Contains ⟨(wordsP k).toArray⟩ ((⟨#[32]⟩:ByteArray)++s++⟨#[32]⟩) m w (by omega) hm);have hz1:¬ 9223372036854775807<(⟨#[32]⟩:ByteArray).size+s.size:=by show ¬ _<1+_;omega
  have hz2:¬ 9223372036854775807<((⟨#[32]⟩:ByteArray)++s).size+(⟨#[32]⟩:ByteArray).size:=by rw [ByteArray.size_append];show ¬ _<1+_+1;omega
  have hcat:((⟨#[32]⟩:ByteArray)++s++⟨#[32]⟩).data.toList=32::(s.toList++[32]):=by rw [ByteArray.data_append,ByteArray.data_append,ByteArray.toList_eq];simp
  rw [hcat] at CB2;have e1:(⟨(wordsP k).toArray⟩:ByteArray).data.toList=wordsP k:=by simp
  rw [e1] at CB2;have e2:s.data.toList=s.toList:=(ByteArray.toList_eq s).symm;rw [e2,show (⟨#[32]⟩:ByteArray).data.toList=[32] from rfl] at CB1;clear e1 e2 hcat hm hw hne HO k66 k26 k27 k5 k7 k15 k34 hAz;generalize (⟨(wordsP k).toArray⟩:ByteArray)=A at *;generalize Lib.contains s.toList [32]=b1 at *;generalize Lib.contains (wordsP k) (32::(s.toList++[32]))=b2 at *;by_cases he:s.toList.isEmpty=true
  ·have he2:s.toList=[]:=by simpa using he
   have HX:=Hd (show sptB k s=false by rw [HV.out,he];rfl);go_enter Tryz.func74,Tryz.ntmps74;go_wp2_with fail;refine C1.out.mono ?_;rintro e w1 ⟨rfl,rfl⟩;go_wp2_with fail;exact HQ.out _ _ HX.out (bR _ _)
  ·have he1:s.toList.isEmpty=false:=by simpa using he
   clear he;cases b1 with
   | true =>
    have HX:=Hd (show sptB k s=false by rw [HV.out,he1];rfl);go_enter Tryz.func74,Tryz.ntmps74;go_wp2_with fail;refine C1.out.mono ?_;rintro e w1 ⟨rfl,rfl⟩;go_wp2_with fail;refine CB1.out.mono ?_;rintro e w1 ⟨rfl,rfl⟩;go_wp2_with fail;exact HQ.out _ _ HX.out (bR _ _)
   | false =>
    have HX:=Hd (show sptB k s=b2 by rw [HV.out,he1];rfl);go_enter Tryz.func74,Tryz.ntmps74;go_wp2_with fail;refine C1.out.mono ?_;rintro e w1 ⟨rfl,rfl⟩;go_wp2_with fail;refine CB1.out.mono ?_;rintro e w1 ⟨rfl,rfl⟩;go_wp2_with fail;refine CB2.out.mono ?_;rintro e w1 ⟨rfl,rfl⟩;go_wp2_with fail;exact HQ.out _ _ HX.out (bR _ _)
def partB (p:Prt):Bool:=decide (p.1≤68)&&(decide (((arL p.1).1:Int)≤p.2.1)&&((decide (p.2.1=(arL p.1).1) || (arL p.1).2)&&sptB p.1 p.2.2))
def checkB (l:List Prt):Bool:=zV l&&l.all partB
def FineP (l:List Prt):Prop:=∀ p∈l,p.1<256∧p.2.2.size≤2147483647
theorem FineP.at {l:List Prt} (h:FineP l) {k:Nat} (hk:k<l.length):(l[k]).1<256∧(l[k]).2.2.size≤2147483647:=h _ (gM hk)
theorem zTu {l:List Prt} {k:Nat} (hk:k<l.length) (h:partB l[k]=false):checkB l=false:=by
 unfold checkB;have:l.all partB=false:=by rw [List.all_eq_false];exact ⟨l[k],gM hk,by simp [h]⟩
 rw [this,Bool.and_false]
theorem zQc {l:List Prt} (hw:zV l=true) (h:∀ j (hj:j<l.length),partB l[j]=true):checkB l=true:=by
 unfold checkB;rw [hw,Bool.true_and,List.all_eq_true];intro p hp;obtain ⟨i,hi,rfl⟩:=List.getElem_of_mem hp;exact h i hi
def chkRel (l:List Prt) (w:World) (i:Value) (wr:World):Prop:=∃ k:Nat,i=.int .i64 (k:Int)∧k≤l.length∧(∀ j (hj:j<l.length),j<k→partB l[j]=true)∧Below w.heap.size w wr
theorem zWz {l:List Prt} {k:Nat} (hk:k<l.length) (h:partB l[k]=true) (hn:∀ j (hj:j<l.length),j<k→partB l[j]=true):∀ j (hj:j<l.length),j<k+1→partB l[j]=true:=by
 intro j hj hlt;by_cases e:j=k
 ·subst e;exact h
 ·exact hn j hj (by omega)
theorem zFq (l:List Prt) (hl:l.length≤1000000000) (hf:FineP l) (v:Value) (w:World) (hT:Tabs w) (hM:MaxC w) (hr:zF w v l) :
  Calls Tryz.prog 49 #[v] w fun e w'=>e=.returned (.int .i64 (if checkB l then 0 else 8))∧Below w.heap.size w w':=by
 have HQ:Hid (∀ x w',(if checkB l then (0:Int) else 8)=x→Below w.heap.size w w'→(fun (e:Ending) w'=>e=.returned (.int .i64 (if checkB l then 0 else 8))∧Below w.heap.size w w') (.returned (.int .i64 x)) w'):=Hd fun x w' h hb=>⟨by rw [h],hb⟩
 generalize (fun (e:Ending) w'=>e=.returned (.int .i64 (if checkB l then 0 else 8))∧Below w.heap.size w w')=Q at *;have HR:=Hd hr;have HF:=Hd hf;have HT:=Hd hT;have HM:=Hd hM;have C1:=Hd (zDu l hl v w hr);obtain ⟨va,vcap,rfl,hvc⟩:=hr.slice;clear hr hf hT hM;go_enter Tryz.func49,Tryz.ntmps49;go_wp2_with fail;refine C1.out.mono ?_;rintro e w1 ⟨rfl,hb1⟩;have HB1:=Hd hb1;clear hb1 C1;cases hw:zV l with
 | false =>
  have HX:=Hd (show (if checkB l then (0:Int) else 8)=8 by unfold checkB;rw [hw];rfl);clear hw;go_wp2_with fail;exact HQ.out _ _ HX.out HB1.out
 | true =>
  have HW:=Hd hw;clear hw;go_wp2_with fail;go_loopw [12] (fun i wr=>chkRel l w i wr) (fun i _=>l.length-(intOf i).toNat)
  case atStart=>exact ⟨0,rfl,Nat.zero_le _,fun j _ h=>by omega,HB1.out⟩
  case round =>
   obtain ⟨k,rfl,hk,hyes,hb⟩:=hrel;have HB:=Hd hb;have HY:=Hd hyes;clear hb hyes;by_cases hlt:k<l.length
   ·have hkl:(k:Int)<l.length:=by omega
    obtain ⟨b1,o1,rfl,_,_,_,hc1⟩:=HR.out.at HB.out (show 0<l.length by omega);obtain ⟨d0,d1,d2⟩:=hc1 k hlt;have hk0:(0:Int)≤k:=by omega
    have hkc:(k:Int)<vcap:=by omega
    have hwk:IntKind.i64.wrap ((k:Int)+1)=(k:Int)+1:=wI (by omega);obtain ⟨hk256,hsz⟩:=HF.out.at hlt;have HBAD:=Hd (fun (h:partB l[k]=false)=>show (if checkB l then (0:Int) else 8)=8 by rw [zTu hlt h];rfl);have HGOOD:=Hd (fun (h:partB l[k]=true)=>zWz hlt h HY.out);have HML:Hid (l.length-(k+1)<l.length-k):=Hd (by omega);have HK1:Hid (k+1≤l.length):=Hd hlt;have hpd:partB l[k]=(decide ((l[k]).1≤68)&&(decide (((arL (l[k]).1).1:Int)≤(l[k]).2.1)&&((decide ((l[k]).2.1=(arL (l[k]).1).1) || (arL (l[k]).1).2)&&sptB (l[k]).1 (l[k]).2.2))):=rfl;have HPD:=Hd hpd;clear hc1 hpd;generalize hpb:partB l[k]=pb at *;have HPB:=Hd hpb;clear hpb;generalize l[k]=x at *;obtain ⟨xk,xn,xw⟩:=x;simp only [] at d0 d1 d2 hk256 hsz HPD;have HPK:=PK.alloc_new wr (xk,xn,xw);have p0:=HPK.c0;have p1:=HPK.c1;have p2:=HPK.c2;have HBA:=Hd (HB.out.alloc HB.out.size (.cells #[.int .u8 (xk:Int),.int .i64 xn,.string xw] 53));have HTA:=Hd (HT.out.below HBA.out);have HMA:=Hd (HM.out.below HBA.out);have CA:=Hd (fun w=>zPz xk hk256 w);have CS:=Hd (zQb xk hk256 xw _ HTA.out HMA.out hsz);clear HPK HTA HMA hsz;generalize arL xk=ar at *;generalize sptB xk xw=sp at *;obtain ⟨am,ab⟩:=ar;simp only [] at p0 p1 p2 HPD;by_cases c1:xk≤68
    ·have c1i:¬ (68:Int)<(xk:Int):=by omega
     by_cases c2:(am:Int)≤xn
     ·have c2i:¬ xn<(am:Int):=by omega
      by_cases c3:xn=(am:Int)
      ·have c3i:¬ (am:Int)<xn:=by omega
       have HP:=Hd (show pb=sp by rw [HPD.out,decide_eq_true c1,decide_eq_true c2,decide_eq_true c3];simp);clear c3 c2 c1 HPD;go_wp2_with fail;refine (CA.out _).mono ?_;rintro e w2 ⟨rfl,rfl⟩;go_wp2_with fail;refine mB CS.out HBA.out fun w2 HB2=>?_;cases sp with
       | false =>
        have HX:=Hd (HBAD.out HP.out);go_wp2_with fail;exact HQ.out _ _ HX.out HB2.out
       | true =>
        have HRL:Hid (chkRel l w (.int .i64 ((k+1:Nat):Int)) w2):=Hd ⟨k+1,rfl,HK1.out,HGOOD.out HP.out,HB2.out⟩;go_wp2_with fail;refine ⟨?_,(by have:=HML.out;simp [intOf];try omega)⟩;first
         | exact HRL.out
         | (repeat apply Exists.intro
            refine ⟨?_,rfl⟩;exact HRL.out)
      ·have c3i:(am:Int)<xn:=by omega
       cases ab with
       | false =>
        have HP:=Hd (show pb=false by rw [HPD.out,decide_eq_false c3];simp);have HX:=Hd (HBAD.out HP.out);clear c3 c2 c1 HPD;go_wp2_with fail;refine (CA.out _).mono ?_;rintro e w2 ⟨rfl,rfl⟩;go_wp2_with fail;exact HQ.out _ _ HX.out HBA.out
       | true =>
        have HP:=Hd (show pb=sp by rw [HPD.out,decide_eq_true c1,decide_eq_true c2];simp);clear c3 c2 c1 HPD;go_wp2_with fail;refine (CA.out _).mono ?_;rintro e w2 ⟨rfl,rfl⟩;go_wp2_with fail;refine mB CS.out HBA.out fun w2 HB2=>?_;cases sp with
        | false =>
         have HX:=Hd (HBAD.out HP.out);go_wp2_with fail;exact HQ.out _ _ HX.out HB2.out
        | true =>
         have HRL:Hid (chkRel l w (.int .i64 ((k+1:Nat):Int)) w2):=Hd ⟨k+1,rfl,HK1.out,HGOOD.out HP.out,HB2.out⟩;go_wp2_with fail;refine ⟨?_,(by have:=HML.out;simp [intOf];try omega)⟩;first
          | exact HRL.out
          | (repeat apply Exists.intro
             refine ⟨?_,rfl⟩;exact HRL.out)
     ·have c2i:xn<(am:Int):=by omega
      have HP:=Hd (show pb=false by rw [HPD.out,decide_eq_false c2];simp);have HX:=Hd (HBAD.out HP.out);clear c2 c1 HPD;go_wp2_with fail;refine (CA.out _).mono ?_;rintro e w2 ⟨rfl,rfl⟩;go_wp2_with fail;exact HQ.out _ _ HX.out HBA.out
    ·have c1i:(68:Int)<(xk:Int):=by omega
     have HP:=Hd (show pb=false by rw [HPD.out,decide_eq_false c1];simp);have HX:=Hd (HBAD.out HP.out);clear c1 HPD;go_wp2_with fail;refine (CA.out _).mono ?_;rintro e w2 ⟨rfl,rfl⟩;go_wp2_with fail;exact HQ.out _ _ HX.out HBA.out
   ·have hkl:¬ (k:Int)<l.length:=by omega
    have HX:=Hd (show (if checkB l then (0:Int) else 8)=0 by rw [zQc HW.out fun j hj=>HY.out j hj (by omega)];rfl);go_wp2_with fail;exact HQ.out _ _ HX.out HB.out
end Go.Proofs.YtbjkdmbcpkopjaaGreatDoor
namespace Go.Proofs.YtbjkdmbcpkopjaaGreatDoor
set_option linter.all false

def holeB (r:RuleM) (i:Nat):Bool:=match r.holes[i]? with
 | none=>true
 | some h=>!(r.holes.take i).any (fun g=>decide (g.1=h.1))&&(name h.1&&(decide (1≤h.2∧h.2≤7)&&(decide (1≤yK r.fnd h)&&decide (0≤yK r.by' h))))
def sevN (hs:List Hl):Nat:=(hs.filter fun h=>isSev h.2).length
def ruleTop (r:RuleM):Bool:=name r.nm&&(decide (1≤r.goal∧r.goal≤3)&&(checkB r.fnd&&(checkB r.by'&&!(decide (r.goal=3)&&decide (zT r.by' 0≠13)))))
def ruleZ (r:RuleM):Int :=
 if ruleTop r=false then 10
 else if 16<r.holes.length∨2<sevN r.holes then 14
 else if ∀ i,i<r.holes.length→holeB r i=true then 0 else 11
theorem vT {l:List Prt} (h:checkB l=true):zV l=true∧∀ p (hp:p<l.length),partB l[p]=true:=by
 unfold checkB at h;simp only [Bool.and_eq_true,List.all_eq_true] at h;exact ⟨h.1,fun p hp=>h.2 _ (gM hp)⟩
theorem zHo {p:Prt} (h:partB p=true) (hk:p.1=26):p.2.1=0:=by
 unfold partB at h;simp only [Bool.and_eq_true,Bool.or_eq_true,decide_eq_true_eq] at h;rw [hk] at h;have e:arL 26=(0,false):=rfl;rw [e] at h;rcases h.2.2.1 with h1 | h1
 ·simpa using h1
 ·cases h1
theorem zHp {p:Prt} (h:partB p=true) (hk:p.1=50):p.2.1=1:=by
 unfold partB at h;simp only [Bool.and_eq_true,Bool.or_eq_true,decide_eq_true_eq] at h;rw [hk] at h;have e:arL 50=(1,false):=rfl;rw [e] at h;rcases h.2.2.1 with h1 | h1
 ·simpa using h1
 ·cases h1
theorem zHq {l:List Prt} {h:Hl} (h0:0≤yK l h):∀ p (hp:p<l.length),xQ l[p] h=true→xZ l h.2 p=true :=
 fun p hp=>zBq l h l.length 0 0 (Int.le_refl _) (by omega) h0 p hp (by omega)
theorem kO {r:RuleM} (h:ruleZ r=0):name r.nm=true∧(1≤r.goal∧r.goal≤3)∧checkB r.fnd=true∧checkB r.by'=true∧(r.goal=3→zT r.by' 0=13)∧r.holes.length≤16∧sevN r.holes≤2∧∀ i,i<r.holes.length→holeB r i=true:=by
 unfold ruleZ at h;split at h
 ·cases h
 ·rename_i h1;split at h
  ·cases h
  ·rename_i h2;split at h
   ·rename_i h3;have h1:ruleTop r=true:=by simpa using h1
    unfold ruleTop at h1;simp only [Bool.and_eq_true,Bool.not_eq_true',decide_eq_true_eq,Bool.and_eq_false_iff,decide_eq_false_iff_not] at h1;obtain ⟨a1,a2,a3,a4,a5⟩:=h1;refine ⟨a1,a2,a3,a4,fun e=>?_,by omega,by omega,h3⟩;rcases a5 with a5 | a5
    ·exact absurd e a5
    ·exact Decidable.not_not.1 a5
   ·cases h
theorem kC {r:RuleM} {i:Nat} (hi:i<r.holes.length) (h:holeB r i=true):(∀ k (hk:k<i),(r.holes[k]).1≠(r.holes[i]).1)∧name (r.holes[i]).1=true∧(1≤(r.holes[i]).2∧(r.holes[i]).2≤7)∧1≤yK r.fnd r.holes[i]∧0≤yK r.by' r.holes[i]:=by
 unfold holeB at h;rw [gE hi] at h;simp only [Bool.and_eq_true,decide_eq_true_eq,Bool.not_eq_true'] at h;refine ⟨fun k hk e=>?_,h.2⟩;have h1:=h.1;rw [List.any_eq_false] at h1;have h2:k<(r.holes.take i).length:=by rw [List.length_take];omega
 have:=h1 ((r.holes.take i)[k]) (gM h2);rw [List.getElem_take] at this;simp [e] at this
theorem vI {r:RuleM} (h:ruleZ r=0):xP r.fnd r.holes∧xP r.by' r.holes∧∀ i (hi:i<r.holes.length),∃ p,p<r.fnd.length∧zL r.fnd r.holes p=some i:=by
 obtain ⟨a1,a2,a3,a4,a5,a6,a7,a8⟩:=kO h;have hu:∀ (a b:Nat) (ha:a<r.holes.length) (hb:b<r.holes.length),(r.holes[a]).1=(r.holes[b]).1→a=b:=by
  intro a b ha hb e;rcases Nat.lt_trichotomy a b with c | c | c
  ·exact absurd e ((kC hb (a8 b hb)).1 a c)
  ·exact c
  ·exact absurd e.symm ((kC ha (a8 a ha)).1 b c)
 have f3:=vT a3;have f4:=vT a4;have H1:xP r.fnd r.holes:=⟨f3.1,hu,fun p hp=>zHo (f3.2 p hp),fun p hp=>zHp (f3.2 p hp),fun i hi p hp hpl=>zHq (by have:=(kC hi (a8 i hi)).2.2.2.1;omega) p hp hpl⟩;refine ⟨H1,⟨f4.1,hu,fun p hp=>zHo (f4.2 p hp),fun p hp=>zHp (f4.2 p hp),fun i hi p hp hpl=>zHq (kC hi (a8 i hi)).2.2.2.2 p hp hpl⟩,fun i hi=>?_⟩;have h1:=(kC hi (a8 i hi)).2.2.2.1;obtain ⟨p,hp,hpl⟩:=zCg r.fnd r.holes[i] r.fnd.length 0 0 (Int.le_refl _) (by omega) (by unfold yK at h1;omega);exact H1.place_at hi hp hpl
def startS (hs:List Hl):MSt:=List.replicate hs.length none
theorem zBf (hs:List Hl) (k:Nat) (q:Nat×Nat):(startS hs)[k]?≠some (some q):=by
 unfold startS;rw [List.getElem?_replicate];split <;> simp
def fuelZ (f:List Prt):Nat:=2*f.length+1
def atZ (r:RuleM) (l:List Prt) (i:Int):Option MSt :=
 if ruleZ r=0∧zV l=true∧0≤i∧i<l.length then (aPart r.fnd l r.holes (fuelZ r.fnd) 0 i.toNat (startS r.holes)).head? else none
abbrev Bnd:=ByteArray×Int×Int
def bindOf (h:Hl) (o:Option (Nat×Nat)):Bnd:=match o with
 | some q=>(h.1,(q.1:Int),(q.2:Int))
 | none=>(h.1,0,0)
def bindsOf (hs:List Hl) (σ:MSt):List Bnd:=hs.zipWith bindOf σ
def widest (l:List Prt):Int:=l.foldl (fun n p=>max n p.2.1) 0
theorem fU {r:RuleM} {l:List Prt} {i:Int} {τ:MSt} (h:atZ r l i=some τ):ruleZ r=0∧zV l=true∧0≤i∧i<l.length∧τ∈aPart r.fnd l r.holes (fuelZ r.fnd) 0 i.toNat (startS r.holes)∧τ.length=r.holes.length∧(∀ h (hh:h<r.holes.length),∃ q,τ[h]?=some (some q)∧Good1 l r.holes i.toNat (zB l i.toNat) h q):=by
 unfold atZ at h;split at h
 ·rename_i hc;obtain ⟨h1,h2,h3,h4⟩:=hc;have hm:=List.mem_of_head? h;have H:=vI h1;have hl:=zJ h2;have hf0:=xT H.1.well;refine ⟨h1,h2,h3,h4,hm,?_,fun k hk=>?_⟩
  ·rw [← ((zGc _ _ _ _).1 _ _ _ _ hm).1];unfold startS;simp
  ·obtain ⟨p,hp,hpo⟩:=H.2.2 k hk;obtain ⟨q,hq⟩:=(yCi _ _ _ H.1 _).1 0 _ _ _ hf0.1 H.1.top hm p k (Nat.zero_le _) (by rw [hf0.2];exact hp) hpo;rcases (zXn _ _ _ hl _).1 _ _ _ _ (by omega) H.1.top hm k q hq with g | g
   ·exact absurd g (zBf _ _ _)
   ·exact ⟨q,hq,g⟩
 ·cases h
theorem zHr {l:List Prt} {us:List Nat} (hl:zD l=some us) {i:Nat} (hi:i<l.length):zV (piece l i (zB l i))=true∧(piece l i (zB l i)).length=zB l i-i:=by
 obtain ⟨t,ht⟩:=zDe hl hi;have hg:=zP hl hi;have:=(zU ht).1;simp at this;exact ⟨by rw [jU,ht,this],vW (by omega) hg.2⟩
theorem zHs {l:List Prt} {us:List Nat} (hl:zD l=some us) {a b:Nat} (hab:a≤b) {ts:List Nat} (hp:zD (piece l a b)=some ts):Sits (piece l a b) l a:=⟨⟨_,hp⟩,⟨_,hl⟩,⟨_,zBr hab⟩⟩
theorem zOv (d:Nat) (hs:List Hl):shift d (startS hs)=startS hs:=by
 unfold shift startS;rw [List.map_replicate];rfl
theorem zZq {r:RuleM} {P l:List Prt} {d:Nat} (hS:Sits P l d) (hP:zV P=true) (hl:zV l=true) (hd:d<l.length):atZ r l d=(atZ r P 0).map (shift d):=by
 have h0:=(xT hP).1;unfold atZ;by_cases hr:ruleZ r=0
 ·rw [iP ⟨hr,hl,by omega,by omega⟩,iP ⟨hr,hP,by omega,by omega⟩];have h1:=(zTc r.fnd r.holes hS (fuelZ r.fnd)).1 0 0 (startS r.holes) h0 (fun h q hq=>absurd hq (zBf _ _ _));rw [zOv,Nat.zero_add] at h1;rw [show ((d:Int)).toNat=d by omega,h1,List.head?_map];rfl
 ·rw [iN (fun h=>hr h.1),iN (fun h=>hr h.1)];rfl
theorem zZr {r:RuleM} {l:List Prt} (hl:zV l=true) {i:Nat} (hi:i<l.length):atZ r l i=(atZ r (piece l i (zB l i)) 0).map (shift i):=by
 have hw:=zJ hl;have hp:=zHr hw hi;have hg:=zP hw hi;exact zZq (zHs hw (by omega) (jU.1 hp.1)) hp.1 hl hi
def valOf (l:List Prt) (τ:MSt) (h:Nat):List Prt:=match τ[h]? with
 | some (some q)=>piece l q.1 q.2
 | _=>[]
def instZ (t:List Prt) (hs:List Hl) (v:Nat→List Prt):List Prt:=iPart t hs v (fuelZ t) 0
theorem zOw {r:RuleM} {l:List Prt} {i:Int} {τ:MSt} (h:atZ r l i=some τ):instZ r.fnd r.holes (valOf l τ)=piece l i.toNat (zB l i.toNat):=by
 obtain ⟨h1,h2,h3,h4,h5,h6,h7⟩:=fU h;exact (zXl r.fnd l r.holes (zJ h2) τ (valOf l τ) (fun k q hq=>by unfold valOf;rw [hq]) (fuelZ r.fnd)).1 0 _ _ _ (by omega) (vI h1).1.top h5 (MExt.refl _)
theorem zRz (l:List Prt) (hs:List Hl) (v:Nat→List Prt):Con l hs v (startS hs):=⟨by unfold startS;simp,fun h q hq=>absurd hq (zBf _ _ _)⟩
theorem zZs {r:RuleM} (hr:ruleZ r=0) {v:Nat→List Prt} (hv:VOK r.holes v) {l:List Prt} (hl:zV l=true) {i:Nat} (hi:i<l.length) (e:instZ r.fnd r.holes v=piece l i (zB l i)):∃ τ,atZ r l i=some τ:=by
 have H:=(vI hr).1;have hf0:=xT H.well;obtain ⟨τ,hm,_⟩:=(zXm r.fnd l r.holes (zJ H.well) (zJ hl) v hv (fuelZ r.fnd)).1 0 i (startS r.holes) hf0.1 (by rw [hf0.2];unfold fuelZ;omega) hi H.top (zRz _ _ _) e;unfold atZ;rw [iP ⟨hr,hl,by omega,by omega⟩,show ((i:Int)).toNat=i by omega];cases ha:aPart r.fnd l r.holes (fuelZ r.fnd) 0 i (startS r.holes) with
 | nil=>rw [ha] at hm;cases hm
 | cons σ1 rest=>exact ⟨σ1,rfl⟩
theorem zZt {f:List Prt} {uf:List Nat} (hf:zD f=some uf) {hs:List Hl} (hn:∀ p,zL f hs p=none) (v:Nat→List Prt):∀ n,(∀ p,p<f.length→2*(zB f p-p)≤n→iPart f hs v n p=piece f p (zB f p)) ∧
  (∀ p pend K,pend≤f.length→advT f K p pend=some pend→2*(pend-p)+1≤n→iKids f hs v n p pend=piece f p pend)
 | 0=>⟨(fun p hp h=>by have:=(zP hf hp).1;omega),(fun _ _ _ _ _ h=>by omega)⟩
 | n+1=>by
  obtain ⟨h1,h2⟩:=zZt hf hn v n;constructor
  ·intro p hp h;have hg:=zP hf hp;obtain ⟨q,k1,k2⟩:=xF hf hp;rw [iPart,hn p,gE hp];simp only [];rw [h2 _ _ q hg.2 k2 (by omega),(zGf f hf hg.2 k2).2,fM hg.1 hg.2,← k1]
  ·intro p pend K hpe hK h;rw [iKids];split
   ·rename_i e;subst e;rw [fL]
   ·rename_i e;obtain ⟨hlt,J,_,hJ⟩:=yZ hK e;have hg:=zP hf (show p<f.length by omega);have hle:=yY hf _ _ _ _ hpe hJ;rw [h1 p (by omega) (by omega),h2 _ _ J hpe hJ (by omega),← jQ f (by omega) (by omega)]
theorem zKd {f:List Prt} (hf:zV f=true) {hs:List Hl} (hn:∀ p,zL f hs p=none) (v:Nat→List Prt):instZ f hs v=f:=by
 have h0:=xT hf;unfold instZ;rw [(zZt (zJ hf) hn v _).1 0 h0.1 (by rw [h0.2];unfold fuelZ;omega),h0.2];unfold piece;simp
theorem zVu {r:RuleM} (hr:ruleZ r=0) (hh:r.holes=[]) {l:List Prt} (hl:zV l=true) {k:Nat} (hk:k<l.length):(∀ τ,atZ r l k=some τ→τ=[]∧r.fnd=piece l k (zB l k))∧(r.fnd=piece l k (zB l k)→∃ τ,atZ r l k=some τ):=by
 have hn:∀ p,zL r.fnd r.holes p=none:=fun p=>by unfold zL;rw [hh];rfl
 have H:=(vI hr).1;constructor
 ·intro τ h;have h1:=zOw h;rw [zKd H.well hn,show ((k:Int)).toNat=k by omega] at h1;have h2:=(fU h).2.2.2.2.2.1;rw [hh] at h2;exact ⟨List.length_eq_zero_iff.1 h2,h1⟩
 ·intro e;exact zZs hr (v:=fun _=>[]) (fun h=>⟨⟨[],rfl⟩,fun h1=>by rw [hh] at h1;simp at h1⟩) hl hk (by rw [zKd H.well hn];exact e)
theorem yDk {l:List Prt} {us:List Nat} (hl:zD l=some us) {i k:Nat} (hi:i<l.length) (h1:i<k) (h2:k<zB l i) (h3:∀ j,i<j→j<k→zB l j≤k):upN l k=(i:Int):=by
 unfold upN;have key:∀ m,i<m→m≤k→upI l k m=(i:Int):=by
  intro m;induction m with
  | zero=>intro h;omega
  | succ m ih =>
   intro h4 h5;rw [upI];by_cases e:m=i
   ·subst e;rw [iP h2]
   ·rw [iN (by have:=h3 m (by omega) (by omega);omega)];exact ih (by omega) (by omega)
 exact key k h1 (nR _)
theorem zSa {l:List Prt} {us:List Nat} (hl:zD l=some us) {i j:Nat} (hi:i<l.length) (h1:i≤j) (h2:j<zB l i):zB l j≤zB l i:=by
 have hp:=zHr hl hi;have hg:=zP hl hi;have hS:=zHs hl (show i≤zB l i by omega) (jU.1 hp.1);have hx:j-i<(piece l i (zB l i)).length:=by rw [hp.2];omega
 have e1:=hS.end_ hx;have e2:=zP (jU.1 hp.1) hx;rw [hp.2] at e2;rw [show j-i+i=j by omega] at e1;omega
def gP (l:List Prt):Nat→Nat→Nat
 | 0,k=>k
 | n+1,k=>gP l n (zB l k)
theorem zLz {l:List Prt} {k stop:Nat}:∀ {n b:Nat},advT l n k stop=some b→gP l n k=b
 | 0,b,h=>by rw [advT] at h;cases h;rfl
 | n+1,b,h=>by
  rw [advT] at h;split at h
  ·rw [gP];exact zLz h
  ·cases h
theorem zBw (l:List Prt):∀ (n k:Nat),gP l (n+1) k=zB l (gP l n k)
 | 0,k=>rfl
 | n+1,k=>by rw [gP,zBw l n (zB l k)];rfl
theorem zTj {l:List Prt} {us:List Nat} (hl:zD l=some us) {i:Nat} (hi:i<l.length):∃ q:Nat,(l[i]).2.1=(q:Int)∧gP l q (i+1)=zB l i∧q≤l.length∧∀ c,c<q→i<gP l c (i+1)∧gP l c (i+1)<l.length:=by
 obtain ⟨q,h1,h2⟩:=xF hl hi;have hg:=zP hl hi;have hle:=yY hl _ _ _ _ hg.2 h2;refine ⟨q,h1,zLz h2,by omega,fun c hc=>?_⟩;have h3:=h2;rw [show q=c+(q-c) by omega,zAw] at h3;cases hx:advT l c (i+1) (zB l i) with
 | none=>rw [hx] at h3;cases h3
 | some x =>
  rw [hx,Option.bind_some,show q-c=(q-c-1)+1 by omega,advT] at h3;rw [zLz hx];split at h3
  ·have:=yY hl _ _ _ _ hg.2 hx;omega
  ·cases h3
end Go.Proofs.YtbjkdmbcpkopjaaGreatDoor
