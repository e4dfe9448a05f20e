/- Layer 11: which words a kind may have; the program's spelt, walked. -/
import Derived.Test.YtfpjdpdmgceciaaGreatDoorCoreTg
import Derived.Test.YtfpjdpdmgceciaaGreatDoorCheckPTg
import Derived.Test.YtfpjdpdmgceciaaGreatDoorClassTg
import Derived.Test.YtfpjdpdmgceciaaGreatDoorQuoted6Tg
import Derived.Test.YtfpjdpdmgceciaaGreatDoorNumTg
import Derived.Test.YtfpjdpdmgceciaaGreatDoorShelfQTg
import Derived.Test.YtfpjdpdmgceciaaGreatDoorTermTg
namespace Go.Proofs.YtfpjdpdmgceciaaGreatDoor
set_option maxRecDepth 100000
set_option maxHeartbeats 32000000
set_option linter.all false
open Go.RowKit
theorem zFn(x:List UInt8):(⟨x.toArray⟩:ByteArray).toList=x:=by rw[ByteArray.toList_eq]
def sptB(k:Nat)(s:ByteArray):Bool :=
 if k=26 then name s else if k=27 then(decide ((value s).2=0) || decide (kindL (zA s)≠0))else(s.toList.isEmpty&&noneT k) || decide (s.toList∈wordsT k)
theorem jY{k:Nat}(s:ByteArray)(h1:k≠26)(h2:k≠27):sptB k s=((s.toList.isEmpty&&noneT k) || decide (s.toList∈wordsT k)):=by unfold sptB;rw[iN h1,iN h2]
theorem zVt{k:Nat}(s:ByteArray)(h:k=3\/k=4\/k=36\/k=37\/k=45\/k=52\/k=53\/k=57):sptB k s=(!s.toList.isEmpty&&(!Lib.contains s.toList [32]&&Lib.contains (wordsP k) (32::(s.toList++[32])))):=by
 have e:wordsP k=jn (wordsT k):=by rcases h with rfl|rfl|rfl|rfl|rfl|rfl|rfl|rfl<;>rfl
 have hn:noneT k=false:=by rcases h with rfl|rfl|rfl|rfl|rfl|rfl|rfl|rfl<;>rfl
 rw[jY s Z Z,hn,Bool.and_false,Bool.false_or,e,<-zOk (zOl k)]
 congr 1
 cases s.toList with
 |nil=>rfl
 |cons a l=>simp
theorem zZa{k:Nat}(s:ByteArray)(h:¬(k=26\/k=27\/k=5\/k=7\/k=15\/k=34\/k=66))(hw:wordsP k=[]):sptB k s=s.toList.isEmpty:=by
 have hk:¬(k=3\/k=4)/\k≠36/\k≠37/\k≠45/\k≠52/\k≠53/\k≠57:=by
  unfold wordsP at hw;have ne:∀ws,jn ws≠[]:=λws=>by obtain⟨t,ht⟩:=zLv ws;rw[ht];simp
  by_cases h1:k=3\/k=4
  .rw[iP h1]at hw;exact absurd hw (ne _)
  rw[iN h1]at hw;by_cases h2:k=36
  .rw[iP h2]at hw;exact absurd hw (ne _)
  rw[iN h2]at hw;by_cases h3:k=37
  .rw[iP h3]at hw;exact absurd hw (ne _)
  rw[iN h3]at hw;by_cases h4:k=45
  .rw[iP h4]at hw;exact absurd hw (ne _)
  rw[iN h4]at hw;by_cases h5:k=52
  .rw[iP h5]at hw;exact absurd hw (ne _)
  rw[iN h5]at hw;by_cases h6:k=53
  .rw[iP h6]at hw;exact absurd hw (ne _)
  rw[iN h6]at hw;by_cases h7:k=57
  .rw[iP h7]at hw;exact absurd hw (ne _)
  exact⟨h1,h2,h3,h4,h5,h6,h7⟩
 rw[jY s Z Z];have hn:noneT k=true:=by unfold noneT;simp;omega
 have ht:wordsT k=[]:=by
  unfold wordsT;rw[iN Z,iN Z,iN Z,iN Z,iN Z,iN Z,iN Z,iN Z,iN Z,iN Z,iN Z]
 rw[hn,ht];simp
theorem zZb(k:Nat):wordsP k=[]\/((k=3\/k=4\/k=36\/k=37\/k=45\/k=52\/k=53\/k=57)/\wordsP k≠[]):=by
 by_cases h:k=3\/k=4\/k=36\/k=37\/k=45\/k=52\/k=53\/k=57
 .refine Or.inr ⟨h,?_⟩;rcases h with rfl|rfl|rfl|rfl|rfl|rfl|rfl|rfl<;>decide
 .left;unfold wordsP;rw[iN Z,iN Z,iN Z,iN Z,iN Z,iN Z,iN Z]
theorem zRt(k:Nat)(hk:k<256)(s:ByteArray)(w:World)(hT:Tabs w)(hM:MaxC w)(hs:s.size<=2147483647) :
  Calls Tryz.prog 48 #[.int .u8 (k:Int),.string s] w λe w'=>e=.returned (.bool (sptB k s))/\Below w.heap.size w w':=by
 have HQ:Hid (∀x w',sptB k s=x->Below w.heap.size w w'->(λ(e:Ending) w'=>e=.returned (.bool (sptB k s))/\Below w.heap.size w w') (.returned (.bool x)) w'):=Hd λx w' h hb=>⟨by rw[h],hb⟩
 generalize(λ(e:Ending) w'=>e=.returned (.bool (sptB k s))/\Below w.heap.size w w')=Q at *;have HM:=Hd hM;clear hM;by_cases k26:k=26
 .have C1:=Hd (zRw s w hT);have HV:=Hd (show sptB k s=name s by unfold sptB;rw[iP k26]);have f26:((k:Int)==26)=true:=by rw[beq_iff_eq];omega
  clear k26;go_enter Tryz.func48,Tryz.ntmps48;go_wp2_with fail;refine C1.out.mono ?_;rintro e w1 ⟨rfl,hb⟩;generalize name s=x at *;go_wp2_with fail;exact HQ.out _ _ HV.out hb
 have f26:((k:Int)==26)=false:=by rw[bE];omega
 by_cases k27:k=27
 .have C1:=Hd (zNk s w hT HM.out hs);have C2:=Hd (λw=>zFv s hs w);have HV:=Hd (show sptB k s=(decide ((value s).2=0) || decide (kindL (zA s)≠0))by unfold sptB;rw[iN k26,iP k27]);have f27:((k:Int)==27)=true:=by rw[beq_iff_eq];omega
  clear k26 k27;go_enter Tryz.func48,Tryz.ntmps48;go_wp2_with fail;refine C1.out.mono ?_;intro e w1 h1;unfold valuePost at h1;obtain⟨rfl,hb⟩:=h1;have HB:=Hd hb;clear hb;generalize value s=v at *;obtain⟨v1,v2⟩:=v;generalize kindL (zA s)=q at *;simp only[]at HV;by_cases hv:v2=0
  .have hvb:(v2==0)=true:=by rw[beq_iff_eq];exact hv
   have HX:=Hd (show sptB k s=true by rw[HV.out,decide_eq_true hv,Bool.true_or]);clear hv HV;go_wp2_with fail;exact HQ.out _ _ HX.out HB.out
  .have hvb:(v2==0)=false:=by rw[bE];exact hv
   have HX:=Hd (show sptB k s=decide (q≠0)by rw[HV.out,decide_eq_false hv,Bool.false_or]);clear hv HV;go_wp2_with fail;refine mB (C2.out _) HB.out λw2 HB2=>?_;go_wp2_with fail;exact HQ.out _ _ (by rw[HX.out,Bool.eq_iff_iff];simp;try omega) HB2.out
 have f27:((k:Int)==27)=false:=by rw[bE];omega
 have HO:=Hd (jY s k26 k27);by_cases kk:k=5\/k=5
 .have f5:((k:Int)==5)=true:=by rw[beq_iff_eq];omega
  have HV:=Hd (show sptB k s=(s.toList.isEmpty || (s.toList==[46]))by rw[HO.out,Bool.eq_iff_iff];rcases kk with rfl|rfl<;>simp[noneT,wordsT]);clear HO kk k26 k27;by_cases he:s.toList.isEmpty=true
  .have HX:=Hd (show sptB k s=true by rw[HV.out,he];rfl);have he2:s.toList=[]:=by simpa using he
   go_enter Tryz.func48,Tryz.ntmps48;go_wp2_with fail;all_goals exact HQ.out _ _ HX.out (bR _ _)
  .have he1:s.toList.isEmpty=false:=by simpa using he
   have HX:=Hd (show sptB k s=(s.toList==[46])by rw[HV.out,he1,Bool.false_or]);clear he;go_enter Tryz.func48,Tryz.ntmps48;go_wp2_with fail;all_goals exact HQ.out _ _ HX.out (bR _ _)
 have k5:k≠5:=Z;have f5:((k:Int)==5)=false:=by rw[bE];omega
 clear kk;by_cases kk:k=7\/k=7
 .have f7:((k:Int)==7)=true:=by rw[beq_iff_eq];omega
  have HV:=Hd (show sptB k s=(s.toList.isEmpty || (s.toList==[61]))by rw[HO.out,Bool.eq_iff_iff];rcases kk with rfl|rfl<;>simp[noneT,wordsT]);clear HO kk k26 k27 k5;by_cases he:s.toList.isEmpty=true
  .have HX:=Hd (show sptB k s=true by rw[HV.out,he];rfl);have he2:s.toList=[]:=by simpa using he
   go_enter Tryz.func48,Tryz.ntmps48;go_wp2_with fail;all_goals exact HQ.out _ _ HX.out (bR _ _)
  .have he1:s.toList.isEmpty=false:=by simpa using he
   have HX:=Hd (show sptB k s=(s.toList==[61])by rw[HV.out,he1,Bool.false_or]);clear he;go_enter Tryz.func48,Tryz.ntmps48;go_wp2_with fail;all_goals exact HQ.out _ _ HX.out (bR _ _)
 have k7:k≠7:=Z;have f7:((k:Int)==7)=false:=by rw[bE];omega
 clear kk;by_cases kk:k=15\/k=15
 .have f15:((k:Int)==15)=true:=by rw[beq_iff_eq];omega
  have HV:=Hd (show sptB k s=(s.toList.isEmpty || (s.toList==[46,46,46]))by rw[HO.out,Bool.eq_iff_iff];rcases kk with rfl|rfl<;>simp[noneT,wordsT]);clear HO kk k26 k27 k5 k7;by_cases he:s.toList.isEmpty=true
  .have HX:=Hd (show sptB k s=true by rw[HV.out,he];rfl);have he2:s.toList=[]:=by simpa using he
   go_enter Tryz.func48,Tryz.ntmps48;go_wp2_with fail;all_goals exact HQ.out _ _ HX.out (bR _ _)
  .have he1:s.toList.isEmpty=false:=by simpa using he
   have HX:=Hd (show sptB k s=(s.toList==[46,46,46])by rw[HV.out,he1,Bool.false_or]);clear he;go_enter Tryz.func48,Tryz.ntmps48;go_wp2_with fail;all_goals exact HQ.out _ _ HX.out (bR _ _)
 have k15:k≠15:=Z;have f15:((k:Int)==15)=false:=by rw[bE];omega
 clear kk;by_cases kk:k=34\/k=34
 .have f34:((k:Int)==34)=true:=by rw[beq_iff_eq];omega
  have HV:=Hd (show sptB k s=(s.toList.isEmpty || (s.toList==[46,46,46]))by rw[HO.out,Bool.eq_iff_iff];rcases kk with rfl|rfl<;>simp[noneT,wordsT]);clear HO kk k26 k27 k5 k7 k15;by_cases he:s.toList.isEmpty=true
  .have HX:=Hd (show sptB k s=true by rw[HV.out,he];rfl);have he2:s.toList=[]:=by simpa using he
   go_enter Tryz.func48,Tryz.ntmps48;go_wp2_with fail;all_goals exact HQ.out _ _ HX.out (bR _ _)
  .have he1:s.toList.isEmpty=false:=by simpa using he
   have HX:=Hd (show sptB k s=(s.toList==[46,46,46])by rw[HV.out,he1,Bool.false_or]);clear he;go_enter Tryz.func48,Tryz.ntmps48;go_wp2_with fail;all_goals exact HQ.out _ _ HX.out (bR _ _)
 have k34:k≠34:=Z;have f34:((k:Int)==34)=false:=by rw[bE];omega
 clear kk;by_cases k66:k=66
 .have f66:((k:Int)==66)=true:=by rw[beq_iff_eq];omega
  have HV:=Hd (show sptB k s=(s.toList.isEmpty || ((s.toList==[61]) || (s.toList==[58,61])))by rw[HO.out,Bool.eq_iff_iff,k66];simp[noneT,wordsT]);clear HO k66 k26 k27 k5 k7 k15 k34;by_cases he:s.toList.isEmpty=true
  .have HX:=Hd (show sptB k s=true by rw[HV.out,he];rfl);have he2:s.toList=[]:=by simpa using he
   go_enter Tryz.func48,Tryz.ntmps48;go_wp2_with fail;all_goals exact HQ.out _ _ HX.out (bR _ _)
  .have he1:s.toList.isEmpty=false:=by simpa using he
   clear he;cases hq:(s.toList==[61])with
   |true =>
    have HX:=Hd (show sptB k s=true by rw[HV.out,he1,hq];rfl);clear HV;go_enter Tryz.func48,Tryz.ntmps48;go_wp2_with fail;all_goals exact HQ.out _ _ HX.out (bR _ _)
   |false =>
    have HX:=Hd (show sptB k s=(s.toList==[58,61])by rw[HV.out,he1,hq];rfl);clear HV;go_enter Tryz.func48,Tryz.ntmps48;go_wp2_with fail;all_goals exact HQ.out _ _ HX.out (bR _ _)
 have f66:((k:Int)==66)=false:=by rw[bE];omega
 have C1:=Hd (zRs k hk w);rcases zZb k with hw|⟨hw,hne⟩
 .have HX:=Hd (zZa s Z hw);rw[hw]at C1;clear hw HO k66 k26 k27 k5 k7 k15 k34;go_enter Tryz.func48,Tryz.ntmps48;go_wp2_with fail;refine C1.out.mono ?_;rintro e w1 ⟨rfl,rfl⟩;go_wp2_with fail;exact HQ.out _ _ HX.out (bR _ _)
 .have HV:=Hd (zVt s hw);obtain⟨m,hm,_⟩:=HM.out;have hAl:((⟨(wordsP k).toArray⟩:ByteArray).toList.isEmpty)=false:=by
   rw[zFn];cases h:wordsP k with
   |nil=>exact absurd h hne
   |cons a l=>rfl
  have hAz:(⟨(wordsP k).toArray⟩:ByteArray).size<=1000:=by
   have:∀k,k<58->(wordsP k).length<=1000:=V;show(wordsP k).toArray.size<=1000
   simpa using this k Z
  have CB1:=Hd (Tryz.strings_Contains s ⟨#[32]⟩ m w Z hm);have CB2:=Hd (Tryz.strings_Contains ⟨(wordsP k).toArray⟩ ((⟨#[32]⟩:ByteArray)++s++⟨#[32]⟩) m w Z hm);have hz1:¬9223372036854775807<(⟨#[32]⟩:ByteArray).size+s.size:=by show ¬_<1+_;omega
  have hz2:¬9223372036854775807<((⟨#[32]⟩:ByteArray)++s).size+(⟨#[32]⟩:ByteArray).size:=by rw[ByteArray.size_append];show ¬_<1+_+1;omega
  have hcat:((⟨#[32]⟩:ByteArray)++s++⟨#[32]⟩).data.toList=32::(s.toList++[32]):=by rw[ByteArray.data_append,ByteArray.data_append,ByteArray.toList_eq];simp
  rw[hcat]at CB2;have e1:(⟨(wordsP k).toArray⟩:ByteArray).data.toList=wordsP k:=Ob;rw[e1]at CB2;have e2:s.data.toList=s.toList:=(ByteArray.toList_eq s).symm;rw[e2,show(⟨#[32]⟩:ByteArray).data.toList=[32]from rfl]at CB1;clear e1 e2 hcat hm hw hne HO k66 k26 k27 k5 k7 k15 k34 hAz;generalize(⟨(wordsP k).toArray⟩:ByteArray)=A at *;generalize Lib.contains s.toList [32]=b1 at *;generalize Lib.contains (wordsP k) (32::(s.toList++[32]))=b2 at *;by_cases he:s.toList.isEmpty=true
  .have he2:s.toList=[]:=by simpa using he
   have HX:=Hd (show sptB k s=false by rw[HV.out,he];rfl);go_enter Tryz.func48,Tryz.ntmps48;go_wp2_with fail;refine C1.out.mono ?_;rintro e w1 ⟨rfl,rfl⟩;go_wp2_with fail;exact HQ.out _ _ HX.out (bR _ _)
  .have he1:s.toList.isEmpty=false:=by simpa using he
   clear he;cases b1 with
   |true =>
    have HX:=Hd (show sptB k s=false by rw[HV.out,he1];rfl);go_enter Tryz.func48,Tryz.ntmps48;go_wp2_with fail;refine C1.out.mono ?_;rintro e w1 ⟨rfl,rfl⟩;go_wp2_with fail;refine CB1.out.mono ?_;rintro e w1 ⟨rfl,rfl⟩;go_wp2_with fail;exact HQ.out _ _ HX.out (bR _ _)
   |false =>
    have HX:=Hd (show sptB k s=b2 by rw[HV.out,he1];rfl);go_enter Tryz.func48,Tryz.ntmps48;go_wp2_with fail;refine C1.out.mono ?_;rintro e w1 ⟨rfl,rfl⟩;go_wp2_with fail;refine CB1.out.mono ?_;rintro e w1 ⟨rfl,rfl⟩;go_wp2_with fail;refine CB2.out.mono ?_;rintro e w1 ⟨rfl,rfl⟩;go_wp2_with fail;exact HQ.out _ _ HX.out (bR _ _)
def partB(p:Prt):Bool:=decide (p.1<=68)&&(decide (((arL p.1).1:Int)<=p.2.1)&&((decide (p.2.1=(arL p.1).1) || (arL p.1).2)&&sptB p.1 p.2.2))
def checkB(l:List Prt):Bool:=zT l&&l.all partB
def FineP(l:List Prt):Prop:=∀p∈l,p.1<256/\p.2.2.size<=2147483647
theorem FineP.at{l:List Prt}(h:FineP l){k:Nat}(hk:k<l.length):(l[k]).1<256/\(l[k]).2.2.size<=2147483647:=h _ (gM hk)
theorem zVw{l:List Prt}{k:Nat}(hk:k<l.length)(h:partB l[k]=false):checkB l=false:=by
 unfold checkB;have:l.all partB=false:=by rw[List.all_eq_false];exact⟨l[k],gM hk,by simp[h]⟩
 rw[this,Bool.and_false]
theorem zRu{l:List Prt}(hw:zT l=true)(h:∀j (hj:j<l.length),partB l[j]=true):checkB l=true:=by
 unfold checkB;rw[hw,Bool.true_and,List.all_eq_true];intro p hp;obtain⟨i,hi,rfl⟩:=List.getElem_of_mem hp;exact h i hi
def chkRel(l:List Prt)(w:World)(i:Value)(wr:World):Prop:=∃k:Nat,i=.int .i64 (k:Int)/\k<=l.length/\(∀j (hj:j<l.length),j<k->partB l[j]=true)/\Below w.heap.size w wr
theorem zZc{l:List Prt}{k:Nat}(hk:k<l.length)(h:partB l[k]=true)(hn:∀j (hj:j<l.length),j<k->partB l[j]=true):∀j (hj:j<l.length),j<k+1->partB l[j]=true:=by
 intro j hj hlt;by_cases e:j=k
 .subst e;exact h
 .exact hn j hj Z
theorem zRv(l:List Prt)(hl:l.length<=1000000000)(hf:FineP l)(v:Value)(w:World)(hT:Tabs w)(hM:MaxC w)(hr:zG w v l) :
  Calls Tryz.prog 30 #[v] w λe w'=>e=.returned (.int .i64 (if checkB l then 0 else 8))/\Below w.heap.size w w':=by
 have HQ:Hid (∀x w',(if checkB l then(0:Int)else 8)=x->Below w.heap.size w w'->(λ(e:Ending) w'=>e=.returned (.int .i64 (if checkB l then 0 else 8))/\Below w.heap.size w w') (.returned (.int .i64 x)) w'):=Hd λx w' h hb=>⟨by rw[h],hb⟩
 generalize(λ(e:Ending) w'=>e=.returned (.int .i64 (if checkB l then 0 else 8))/\Below w.heap.size w w')=Q at *;have HR:=Hd hr;have HF:=Hd hf;have HT:=Hd hT;have HM:=Hd hM;have C1:=Hd (zLs l hl v w hr);obtain⟨va,vcap,rfl,hvc⟩:=hr.slice;clear hr hf hT hM;go_enter Tryz.func30,Tryz.ntmps30;go_wp2_with fail;refine C1.out.mono ?_;rintro e w1 ⟨rfl,hb1⟩;have HB1:=Hd hb1;clear hb1 C1;cases hw:zT l with
 |false =>
  have HX:=Hd (show(if checkB l then(0:Int)else 8)=8 by unfold checkB;rw[hw];rfl);clear hw;go_wp2_with fail;exact HQ.out _ _ HX.out HB1.out
 |true =>
  have HW:=Hd hw;clear hw;go_wp2_with fail;go_loopw [12] (λi wr=>chkRel l w i wr) (λi _=>l.length-(intOf i).toNat)
  case atStart=>exact⟨0,rfl,Nat.zero_le _,λj _ h=>Z,HB1.out⟩
  case round =>
   obtain⟨k,rfl,hk,hyes,hb⟩:=hrel;have HB:=Hd hb;have HY:=Hd hyes;clear hb hyes;by_cases hlt:k<l.length
   .have hkl:(k:Int)<l.length:=Z;obtain⟨b1,o1,rfl,_,_,_,hc1⟩:=HR.out.at HB.out (show 0<l.length by omega);obtain⟨d0,d1,d2⟩:=hc1 k hlt;have hk0:(0:Int)<=k:=Z;have hkc:(k:Int)<vcap:=Z;have hwk:IntKind.i64.wrap ((k:Int)+1)=(k:Int)+1:=wI Z;obtain⟨hk256,hsz⟩:=HF.out.at hlt;have HBAD:=Hd (λ(h:partB l[k]=false)=>show(if checkB l then(0:Int)else 8)=8 by rw[zVw hlt h];rfl);have HGOOD:=Hd (λ(h:partB l[k]=true)=>zZc hlt h HY.out);have HML:Hid (l.length-(k+1)<l.length-k):=Hd Z;have HK1:Hid (k+1<=l.length):=Hd hlt;have hpd:partB l[k]=(decide ((l[k]).1<=68)&&(decide (((arL (l[k]).1).1:Int)<=(l[k]).2.1)&&((decide ((l[k]).2.1=(arL (l[k]).1).1) || (arL (l[k]).1).2)&&sptB (l[k]).1 (l[k]).2.2))):=rfl;have HPD:=Hd hpd;clear hc1 hpd;generalize hpb:partB l[k]=pb at *;have HPB:=Hd hpb;clear hpb;generalize l[k]=x at *;obtain⟨xk,xn,xw⟩:=x;simp only[]at d0 d1 d2 hk256 hsz HPD;have HPK:=PK.alloc_new wr (xk,xn,xw);have p0:=HPK.c0;have p1:=HPK.c1;have p2:=HPK.c2;have HBA:=Hd (HB.out.alloc HB.out.size (.cells #[.int .u8 (xk:Int),.int .i64 xn,.string xw] 33));have HTA:=Hd (HT.out.below HBA.out);have HMA:=Hd (HM.out.below HBA.out);have CA:=Hd (λw=>zRr xk hk256 w);have CS:=Hd (zRt xk hk256 xw _ HTA.out HMA.out hsz);clear HPK HTA HMA hsz;generalize arL xk=ar at *;generalize sptB xk xw=sp at *;obtain⟨am,ab⟩:=ar;simp only[]at p0 p1 p2 HPD;by_cases c1:xk<=68
    .have c1i:¬(68:Int)<(xk:Int):=Z;by_cases c2:(am:Int)<=xn
     .have c2i:¬xn<(am:Int):=Z;by_cases c3:xn=(am:Int)
      .have c3i:¬(am:Int)<xn:=Z;have HP:=Hd (show pb=sp by rw[HPD.out,decide_eq_true c1,decide_eq_true c2,decide_eq_true c3];simp);clear c3 c2 c1 HPD;go_wp2_with fail;refine(CA.out _).mono ?_;rintro e w2 ⟨rfl,rfl⟩;go_wp2_with fail;refine mB CS.out HBA.out λw2 HB2=>?_;cases sp with
       |false =>
        have HX:=Hd (HBAD.out HP.out);go_wp2_with fail;exact HQ.out _ _ HX.out HB2.out
       |true =>
        have HRL:Hid (chkRel l w (.int .i64 ((k+1:Nat):Int)) w2):=Hd ⟨k+1,rfl,HK1.out,HGOOD.out HP.out,HB2.out⟩;go_wp2_with fail;refine⟨?_,(by have:=HML.out;simp[intOf];try omega)⟩;first
         |exact HRL.out
         | (repeat apply Exists.intro
            refine⟨?_,rfl⟩;exact HRL.out)
      .have c3i:(am:Int)<xn:=Z;cases ab with
       |false =>
        have HP:=Hd (show pb=false by rw[HPD.out,decide_eq_false c3];simp);have HX:=Hd (HBAD.out HP.out);clear c3 c2 c1 HPD;go_wp2_with fail;refine(CA.out _).mono ?_;rintro e w2 ⟨rfl,rfl⟩;go_wp2_with fail;exact HQ.out _ _ HX.out HBA.out
       |true =>
        have HP:=Hd (show pb=sp by rw[HPD.out,decide_eq_true c1,decide_eq_true c2];simp);clear c3 c2 c1 HPD;go_wp2_with fail;refine(CA.out _).mono ?_;rintro e w2 ⟨rfl,rfl⟩;go_wp2_with fail;refine mB CS.out HBA.out λw2 HB2=>?_;cases sp with
        |false =>
         have HX:=Hd (HBAD.out HP.out);go_wp2_with fail;exact HQ.out _ _ HX.out HB2.out
        |true =>
         have HRL:Hid (chkRel l w (.int .i64 ((k+1:Nat):Int)) w2):=Hd ⟨k+1,rfl,HK1.out,HGOOD.out HP.out,HB2.out⟩;go_wp2_with fail;refine⟨?_,(by have:=HML.out;simp[intOf];try omega)⟩;first
          |exact HRL.out
          | (repeat apply Exists.intro
             refine⟨?_,rfl⟩;exact HRL.out)
     .have c2i:xn<(am:Int):=Z;have HP:=Hd (show pb=false by rw[HPD.out,decide_eq_false c2];simp);have HX:=Hd (HBAD.out HP.out);clear c2 c1 HPD;go_wp2_with fail;refine(CA.out _).mono ?_;rintro e w2 ⟨rfl,rfl⟩;go_wp2_with fail;exact HQ.out _ _ HX.out HBA.out
    .have c1i:(68:Int)<(xk:Int):=Z;have HP:=Hd (show pb=false by rw[HPD.out,decide_eq_false c1];simp);have HX:=Hd (HBAD.out HP.out);clear c1 HPD;go_wp2_with fail;refine(CA.out _).mono ?_;rintro e w2 ⟨rfl,rfl⟩;go_wp2_with fail;exact HQ.out _ _ HX.out HBA.out
   .have hkl:¬(k:Int)<l.length:=Z;have HX:=Hd (show(if checkB l then(0:Int)else 8)=0 by rw[zRu HW.out λj hj=>HY.out j hj Z];rfl);go_wp2_with fail;exact HQ.out _ _ HX.out HB.out
end Go.Proofs.YtfpjdpdmgceciaaGreatDoor
namespace Go.Proofs.YtfpjdpdmgceciaaGreatDoor
set_option linter.all false
theorem zJb{l:List Prt}{us:List Nat}(hl:zC l=some us){i:Nat}(hi:i<l.length):zT (piece l i (zB l i))=true/\(piece l i (zB l i)).length=zB l i-i:=by
 obtain⟨t,ht⟩:=zKp hl hi;have hg:=zS hl hi;have:=(yL ht).1;simp at this;exact⟨by rw[xK,ht,this],zWh Z hg.2⟩
theorem zJc{l:List Prt}{us:List Nat}(hl:zC l=some us){a b:Nat}(hab:a<=b){ts:List Nat}(hp:zC (piece l a b)=some ts):Sits (piece l a b) l a:=⟨⟨_,hp⟩,⟨_,hl⟩,⟨_,zSc hab⟩⟩
theorem yHa{l:List Prt}{us:List Nat}(hl:zC l=some us){i k:Nat}(hi:i<l.length)(h1:i<k)(h2:k<zB l i)(h3:∀j,i<j->j<k->zB l j<=k):upN l k=(i:Int):=by
 unfold upN;have key:∀m,i<m->m<=k->upI l k m=(i:Int):=by
  intro m;induction m with
  |zero=>intro h;omega
  |succ m ih =>
   intro h4 h5;rw[upI];by_cases e:m=i
   .subst e;rw[iP h2]
   .rw[iN (by have:=h3 m Z Z;omega)];exact ih Z Z
 exact key k h1 (nR _)
theorem zTm{l:List Prt}{us:List Nat}(hl:zC l=some us){i j:Nat}(hi:i<l.length)(h1:i<=j)(h2:j<zB l i):zB l j<=zB l i:=by
 have hp:=zJb hl hi;have hg:=zS hl hi;have hS:=zJc hl (show i<=zB l i by omega) (xK.1 hp.1);have hx:j-i<(piece l i (zB l i)).length:=by rw[hp.2];omega
 have e1:=hS.end_ hx;have e2:=zS (xK.1 hp.1) hx;rw[hp.2]at e2;rw[show j-i+i=j by omega]at e1;omega
def jU(l:List Prt):Nat->Nat->Nat
 |0,k=>k
 |n+1,k=>jU l n (zB l k)
theorem zEd{l:List Prt}{k stop:Nat}:∀{n b:Nat},advT l n k stop=some b->jU l n k=b
 |0,b,h=>by rw[advT]at h;cases h;rfl
 |n+1,b,h=>by
  rw[advT]at h;split at h
  .rw[jU];exact zEd h
  .cases h
theorem zJd(l:List Prt):∀(n k:Nat),jU l (n+1) k=zB l (jU l n k)
 |0,k=>rfl
 |n+1,k=>by rw[jU,zJd l n (zB l k)];rfl
theorem yGb{l:List Prt}{us:List Nat}(hl:zC l=some us){i:Nat}(hi:i<l.length):∃q:Nat,(l[i]).2.1=(q:Int)/\jU l q (i+1)=zB l i/\q<=l.length/\∀c,c<q->i<jU l c (i+1)/\jU l c (i+1)<l.length:=by
 obtain⟨q,h1,h2⟩:=kL hl hi;have hg:=zS hl hi;have hle:=jR hl _ _ _ _ hg.2 h2;refine⟨q,h1,zEd h2,Z,λc hc=>?_⟩;have h3:=h2;rw[show q=c+(q-c)by omega,jV]at h3;cases hx:advT l c (i+1) (zB l i)with
 |none=>rw[hx]at h3;cases h3
 |some x =>
  rw[hx,Option.bind_some,show q-c=(q-c-1)+1 by omega,advT]at h3;rw[zEd hx];split at h3
  .have:=jR hl _ _ _ _ hg.2 hx;omega
  .cases h3
def wL1:List (List UInt8):=[[124,124]]
def wL2:List (List UInt8):=[[38,38]]
def wL3:List (List UInt8):=[[61,61],[33,61],[60],[60,61],[62],[62,61]]
def wL4:List (List UInt8):=[[43],[45],[124],[94]]
def wL5:List (List UInt8):=[[42],[47],[37],[60,60],[62,62],[38],[38,94]]
def lvW(w:ByteArray):Nat:=if w.toList∈wL1 then 1 else if w.toList∈wL2 then 2 else if w.toList∈wL3 then 3 else if w.toList∈wL4 then 4 else if w.toList∈wL5 then 5 else 1
def yE(p:Prt):Nat:=if p.1=36\/p.1=35 then 6 else if p.1=37 then lvW p.2.2 else 7
def looseZ(p:Prt)(nth:Nat)(kid:Prt):Bool :=
 if p.1=37 then(decide (nth=0)&&decide (yE kid<yE p)) || (decide (nth=1)&&decide (yE kid<=yE p))
 else if p.1=35\/p.1=36 then decide (yE kid<6)
 else if 29<=p.1/\p.1<=34 then decide (nth=0)&&decide (yE kid<7)
 else if p.1=61 then decide (nth=2)&&decide (yE kid<7)
 else false
def zR(p:Prt)(nth:Nat):Nat :=
 if p.1=37 then(if nth=0 then yE p else if nth=1 then yE p+1 else 0)
 else if p.1=35\/p.1=36 then 6
 else if 29<=p.1/\p.1<=34 then(if nth=0 then 7 else 0)
 else if p.1=61 then(if nth=2 then 7 else 0)
 else 0
theorem zBg(p:Prt)(nth:Nat)(kid:Prt):decide (yE kid<zR p nth)=looseZ p nth kid:=by
 unfold zR looseZ;by_cases h1:p.1=37
 .rw[iP h1,iP h1];by_cases h2:nth=0
  .subst h2;simp
  .rw[iN h2];by_cases h3:nth=1
   .subst h3;simp;omega
   .rw[iN h3];simp[h2,h3]
 .rw[iN h1,iN h1];by_cases h2:p.1=35\/p.1=36
  .rw[iP h2,iP h2]
  .rw[iN h2,iN h2];by_cases h3:29<=p.1/\p.1<=34
   .rw[iP h3,iP h3];by_cases h4:nth=0
    .simp[h4]
    .simp[h4]
   .rw[iN h3,iN h3];by_cases h4:p.1=61
    .rw[iP h4,iP h4];by_cases h5:nth=2
     .simp[h5]
     .simp[h5]
    .rw[iN h4,iN h4];simp
abbrev PN:=Prt×Int
def paren:PN:=((28,1,ByteArray.empty),-1)
def brk(p:Prt)(nth:Nat)(kid:Prt):List PN:=if looseZ p nth kid then[paren]else[]
section
variable (l:List Prt) (from':List Int)
def pnAt(i:Nat):PN:=(l.getD i (0,0,ByteArray.empty),from'.getD i 0)
def zO(i:Nat):Prt:=l.getD i (0,0,ByteArray.empty)
mutual
def gPart:Nat->Nat->List PN
 |0,_=>[]
 |n+1,i=>pnAt l from' i::gKids n (zO l i) 0 (i+1) (zB l i)
def gKids:Nat->Prt->Nat->Nat->Nat->List PN
 |0,_,_,_,_=>[]
 |n+1,p,nth,k,stop=>if k=stop then[]else brk p nth (zO l k)++(gPart n k++gKids n p (nth+1) (zB l k) stop)
end
def looseAt(j:Nat):Bool:=match upN l j with
 | .ofNat p=>looseZ (zO l p) ((kidsB l p).idxOf j) (zO l j)
 | .negSucc _=>false
def gOne(j:Nat):List PN:=(if looseAt l j then[paren]else[])++[pnAt l from' j]
def gSeg(a b:Nat):List PN:=(List.range' a (b-a)).flatMap (gOne l from')
theorem zHm{a b c:Nat}(h1:a<=b)(h2:b<=c):gSeg l from' a c=gSeg l from' a b++gSeg l from' b c:=by
 unfold gSeg;rw[<-List.flatMap_append,show c-a=(b-a)+(c-b)by omega]
 congr 1
 have:=List.range'_append (s:=a) (m:=b-a) (n:=c-b) (step:=1);rw[Nat.one_mul,show a+(b-a)=b by omega]at this;exact this.symm
theorem zOq(a:Nat):gSeg l from' a (a+1)=gOne l from' a:=by
 unfold gSeg;rw[show a+1-a=1 by omega];simp[List.range'_succ]
theorem zZn(a:Nat):gSeg l from' a a=[]:=by unfold gSeg;rw[Nat.sub_self];rfl
variable {l}
theorem zBw{us:List Nat}(hl:zC l=some us){i:Nat}(hi:i<l.length):∃q,(l[i]).2.1=((q:Nat):Int)/\advT l q (i+1) (zB l i)=some (zB l i)/\(kidsB l i).length=q/\∀n,n<q->(kidsB l i)[n]?=some (jU l n (i+1)):=by
 obtain⟨ts,q,h1,h2,h3,h4,h5⟩:=zDf hl hi;obtain⟨q',g1,g2⟩:=kL hl hi;obtain rfl:q=q':=Z;refine⟨q,h2,g2,by rw[h5,List.length_take,vL];omega,λn hn=>?_⟩;have hk:∀m n,n+m<=q->jU l m (i+1+(ts.take n).sum)=i+1+(ts.take (n+m)).sum:=by
  intro m;induction m with
  |zero=>intro n _;rfl
  |succ m ih =>
   intro n hn;obtain⟨_,k2,_⟩:=zJm hl h1 h3 (show n<q by omega);rw[jU,k2,ih (n+1) Z]
   congr 3;omega
 have:=hk n 0 Z;simp only[List.take_zero,List.sum_nil,Nat.add_zero,Nat.zero_add]at this;rw[this,h5,List.getElem?_take,iP hn];have hg:=zAt ts (i+1) n Z;have hl2:=vL ts (i+1);rw[gD,gE Z]at hg;rw[gE Z]
 simpa using hg
theorem zZo{us:List Nat}(hl:zC l=some us){stop k:Nat}(hs:stop<=l.length){n m b c:Nat}(hb:advT l n k stop=some b)(hc:advT l m k stop=some c)(h:n<m):b<c:=by
 rw[show m=n+(m-n)by omega,jV,hb,Option.bind_some]at hc;have:=jR hl _ _ _ _ hs hc;omega
theorem zWb{us:List Nat}(hl:zC l=some us){i:Nat}(hi:i<l.length){n k:Nat}(hk:advT l n (i+1) (zB l i)=some k)(hlt:k<zB l i):looseAt l k=looseZ (zO l i) n (zO l k):=by
 obtain⟨q,h1,h2,h3,h4⟩:=zBw hl hi;have hg:=zS hl hi;have hle:=jR hl _ _ _ _ hg.2 hk;obtain⟨r1,r2,r3⟩:=zBi hl hg.2 h2 hk;have hnq:n<q:=by
  rcases Nat.lt_or_ge n q with c|c
  .exact c
  .exfalso;have:q=n:=Z;subst this;rw[h2]at hk;cases hk;omega
 have hup:upN l k=(i:Int):=by
  apply yHa hl hi Z hlt;intro j hj1 hj2
  -- j lies within an earlier kid
  have key:∀m b,advT l m (i+1) (zB l i)=some b->∀j,i<j->j<b->zB l j<=b:=by
   intro m;induction m with
   |zero=>intro b hb j h1 h2;rw[advT]at hb;cases hb;omega
   |succ m ih =>
    intro b hb j g1 g2;rw[jV l m 1]at hb;cases hm:advT l m (i+1) (zB l i)with
    |none=>rw[hm]at hb;cases hb
    |some c =>
     rw[hm,Option.bind_some,advT]at hb;split at hb
     .rename_i hc;rw[advT]at hb;cases hb
      rcases Nat.lt_trichotomy j c with c1|c1|c1
      .have h1:=ih c hm j g1 c1;have:=(zS hl (show c<l.length by omega)).1;omega
      .subst c1;exact nR _
      ·
       have hc1:c<l.length:=Z;have hp:=zJb hl hc1;have hgc:=zS hl hc1;have hS:=zJc hl (show c<=zB l c by omega) (xK.1 hp.1);have hx:j-c<(piece l c (zB l c)).length:=by rw[hp.2];omega
       have e1:=hS.end_ hx;have e2:=zS (xK.1 hp.1) hx;rw[hp.2]at e2;rw[show j-c+c=j by omega]at e1;omega
     .cases hb
  exact key n k hk j hj1 hj2
 unfold looseAt;rw[hup];show looseZ (zO l i) ((kidsB l i).idxOf k) (zO l k)=_;have e:(kidsB l i)[n]?=some k:=by rw[h4 n hnq,zEd hk]
 congr 1
 rw[List.idxOf,List.findIdx_eq (by rw[h3];exact hnq)];obtain⟨hn',he⟩:=List.getElem?_eq_some_iff.1 e;refine⟨by simpa using he,λj hj=>?_⟩;have hjq:j<q:=Z;have ej:=h4 j hjq;obtain⟨_,he2⟩:=List.getElem?_eq_some_iff.1 ej;rw[he2];simp only[bE];intro e3;have hadv:∃b,advT l j (i+1) (zB l i)=some b:=by
  have:=h2;rw[show q=j+(q-j)by omega,jV]at this;cases hj':advT l j (i+1) (zB l i)with
  |none=>rw[hj']at this;cases this
  |some b=>exact⟨b,rfl⟩
 obtain⟨b,hb⟩:=hadv;have:=zZo hl hg.2 hb hk hj;rw[zEd hb]at e3;omega
variable (l)
theorem yGj{us:List Nat}(hl:zC l=some us):∀n,(∀i,i<l.length->2*(zB l i-i)<=n->gPart l from' n i=pnAt l from' i::gSeg l from' (i+1) (zB l i))/\
  (∀i k nth,i<l.length->advT l nth (i+1) (zB l i)=some k->k<=zB l i->2*(zB l i-k)+1<=n->gKids l from' n (zO l i) nth k (zB l i)=gSeg l from' k (zB l i))
 |0=>⟨(λi hi h=>by have:=(zS hl hi).1;omega),(λ_ _ _ _ _ _ h=>Z)⟩
 |n+1=>by
  obtain⟨h1,h2⟩:=yGj hl n;constructor
  .intro i hi h;have hg:=zS hl hi;rw[gPart,h2 i (i+1) 0 hi rfl Z Z]
  .intro i k nth hi hk hle h;have hg:=zS hl hi;rw[gKids];split
   .rename_i e;subst e;rw[zZn]
   .rename_i e;have hkl:k<zB l i:=Z;have hgk:=zS hl (show k<l.length by omega);obtain⟨q,_,hq⟩:=kL hl hi;obtain⟨_,_,r3⟩:=zBi hl hg.2 hq hk;obtain⟨_,J,_,hJ⟩:=jG r3 e;have hle2:=jR hl _ _ _ _ hg.2 hJ;have hk2:advT l (nth+1) (i+1) (zB l i)=some (zB l k):=by rw[jV,hk,Option.bind_some,advT,iP hkl,advT]
    rw[h1 k Z Z,h2 i (zB l k) (nth+1) hi hk2 Z Z];rw[zHm l from' (show k<=k+1 by omega) (show k+1<=zB l i by omega),zOq,zHm l from' (show k+1<=zB l k by omega) (show zB l k<=zB l i by omega)];unfold gOne brk;rw[zWb hl hi hk hkl];simp
def guardZ:List PN:=gSeg l from' 0 l.length
theorem zCx(hl:zT l=true):gPart l from' (2*l.length) 0=guardZ l from':=by
 have h0:=zAa hl;have hw:=zZ hl;rw[(yGj l from' hw _).1 0 h0.1 (by rw[h0.2];omega),h0.2];unfold guardZ;rw[zHm l from' (show 0<=1 by omega) (show 1<=l.length by omega),zOq];unfold gOne looseAt;have:upN l 0=Int.negSucc 0:=rfl;rw[this];rfl
end
section
variable (l:List Prt) (from':List Int)
theorem zZp{i:Nat}(hi:i<l.length):(pnAt l from' i).1=l[i]:=by unfold pnAt;simp[gD,hi]
theorem zWc{x:PN}(h:x∈guardZ l from'):x=paren\/∃i,i<l.length/\x=pnAt l from' i:=by
 unfold guardZ gSeg at h;rw[List.mem_flatMap]at h;obtain⟨i,hi,hx⟩:=h;rw[List.mem_range'_1]at hi;unfold gOne at hx;rw[List.mem_append,List.mem_singleton]at hx;rcases hx with hx|hx
 .split at hx
  .simp at hx;exact Or.inl hx
  .cases hx
 .exact Or.inr ⟨i,Z,hx⟩
end
open Go.RowKit
def SmallL(l:List Prt):Prop:=l.length<=1048576/\∀p∈l,p.1<256/\p.2.2.size<=1048576
end Go.Proofs.YtfpjdpdmgceciaaGreatDoor
namespace Go.Proofs.YtfpjdpdmgceciaaGreatDoor
set_option linter.all false
section
variable (t l:List Prt) (hs:List Hl) (b:Nat->Nat×Nat)
def srcL(x y:Nat):List PN:=(List.range' x (y-x)).map λi=>(zO l i,(i:Int))
mutual
def mPart:Nat->Nat->List PN
 |0,_=>[]
 |n+1,p=>match vQ t hs p with
  |some h=>srcL l (b h).1 (b h).2
  |none=>match t[p]? with
   |some a=>((a.1,(cntP ((mKids n (p+1) (zB t p)).map (·.1)):Int),a.2.2),-1)::mKids n (p+1) (zB t p)
   |none=>[]
def mKids:Nat->Nat->Nat->List PN
 |0,_,_=>[]
 |n+1,p,pend=>if p=pend then[]else mPart n p++mKids n (zB t p) pend
end
end
section
variable (l:List Prt)
end
section
variable {f l:List Prt} {hs:List Hl} {L:Nat->Nat}
end
section
variable {t l:List Prt} {hs:List Hl} {b:Nat->Nat×Nat}
end
def intsV(xs:List Int):List Go.Value:=xs.map (Go.Value.int .i64)
attribute [local irreducible] Calls
open Go.RowKit
def partA(p:Prt):Value:=.agg #[.int .u8 (p.1:Int),.int .i64 p.2.1,.string p.2.2]
def lvl(i:Nat):List (List UInt8):=match i with
 |0=>wL1
 |1=>wL2
 |2=>wL3
 |3=>wL4
 |_=>wL5
theorem zZl(i:Nat):∀v∈lvl i,(32:UInt8)∉v/\v≠[]:=by
 match i with
 |0=>decide
 |1=>decide
 |2=>decide
 |3=>decide
 |n+4=>show ∀v∈wL5,_;decide
theorem zBv(i:Nat)(s:ByteArray):(decide (s.toList≠[])&&(!Lib.contains s.toList [32]&&Lib.contains (jn (lvl i)) (32::(s.toList++[32]))))=decide (s.toList∈lvl i):=zOk (zZl i)
theorem zZm(s:ByteArray):lvW s=if s.toList∈lvl 0 then 1 else if s.toList∈lvl 1 then 2 else if s.toList∈lvl 2 then 3 else if s.toList∈lvl 3 then 4 else if s.toList∈lvl 4 then 5 else 1:=rfl
set_option maxRecDepth 100000
set_option maxHeartbeats 32000000
def gvRel(s:ByteArray)(W1:World)(iv:Value)(wr:World):Prop:=∃i:Nat,iv=.int .i64 (i:Int)/\i<=5/\(∀j,j<i->s.toList∉lvl j)/\wr=W1
theorem yEm{s:ByteArray}{i:Nat}(hi:i<5)(hno:∀j,j<i->s.toList∉lvl j)(h:s.toList∈lvl i):lvW s=i+1:=by
 rw[zZm];have h5:i=0\/i=1\/i=2\/i=3\/i=4:=Z;rcases h5 with rfl|rfl|rfl|rfl|rfl
 .rw[iP h]
 .rw[iN (hno 0 Z),iP h]
 .rw[iN (hno 0 Z),iN (hno 1 Z),iP h]
 .rw[iN (hno 0 Z),iN (hno 1 Z),iN (hno 2 Z),iP h]
 .rw[iN (hno 0 Z),iN (hno 1 Z),iN (hno 2 Z),iN (hno 3 Z),iP h]
theorem zZq{s:ByteArray}(hno:∀j,j<5->s.toList∉lvl j):lvW s=1:=by
 rw[zZm,iN (hno 0 Z),iN (hno 1 Z),iN (hno 2 Z),iN (hno 3 Z),iN (hno 4 Z)]
theorem zFr(p:Prt)(hs:p.2.2.size<=1048576)(w:World)(hM:MaxC w) :
  Calls Tryz.prog 75 #[partA p] w λe w'=>e=.returned (.int .i64 (yE p:Int))/\Below w.heap.size w w':=by
 have HQ:Hid (∀x w',(yE p:Int)=x->Below w.heap.size w w'->(λ(e:Ending) w'=>e=.returned (.int .i64 (yE p:Int))/\Below w.heap.size w w') (.returned (.int .i64 x)) w'):=Hd λx w' h hb=>⟨by rw[h],hb⟩
 generalize(λ(e:Ending) w'=>e=.returned (.int .i64 (yE p:Int))/\Below w.heap.size w w')=Q at *;obtain⟨k,n,s⟩:=p;unfold partA;simp only[]at hs HQ ⊢;have HX:=Hd ((bR w.heap.size w).alloc (nR _) (.cells #[.int .u8 (k:Int),.int .i64 n,.string s] 33));have HPK:Hid (PK (w.alloc (.cells #[.int .u8 (k:Int),.int .i64 n,.string s] 33)) w.heap.size (k,n,s)):=Hd (PK.alloc_new w (k,n,s));by_cases h36:k=36
 .subst h36;have HZ:=Hd (HQ.out 6 _ rfl HX.out);go_enter Tryz.func75,Tryz.ntmps75;go_wp2_with fail;exact HZ.out
 by_cases h35:k=35
 .subst h35;have HZ:=Hd (HQ.out 6 _ rfl HX.out);go_enter Tryz.func75,Tryz.ntmps75;go_wp2_with fail;exact HZ.out
 have g36:((k:Int)==36)=false:=by rw[bE];omega
 have g35:((k:Int)==35)=false:=by rw[bE];omega
 by_cases h37:k=37
 case neg =>
  have g37:((k:Int)==37)=false:=by rw[bE];omega
  have HZ:=Hd (HQ.out 7 _ (by unfold yE;rw[iN (by simp;omega),iN h37];rfl) HX.out);clear h35 h36 h37;go_enter Tryz.func75,Tryz.ntmps75;go_wp2_with fail;exact HZ.out
 subst h37;rw[show((37:Nat):Int)=(37:Int)from rfl]at HX HPK ⊢;have HL:Hid (yE (37,n,s)=lvW s):=Hd (by unfold yE;rw[iN (λh=>by rcases h with h|h<;>simp at h),iP rfl]);have CB:=Hd (λ(a b:ByteArray)(ha:a.size<=2000000) W (hb:Below w.heap.size w W)=>show Calls Tryz.prog 81 #[.string a,.string b] W λe w'=>e=.returned (.bool (Lib.contains a.data.toList b.data.toList))/\w'=W by
  obtain⟨m,hm,_⟩:=(hM.below hb);exact Tryz.strings_Contains a b m W Z hm)
 have hz1:¬9223372036854775807<(⟨#[32]⟩:ByteArray).size+s.size:=by show ¬_<1+_;omega
 have hz2:¬9223372036854775807<((⟨#[32]⟩:ByteArray)++s).size+(⟨#[32]⟩:ByteArray).size:=by rw[ByteArray.size_append];show ¬_<1+_+1;omega
 have hcat:((⟨#[32]⟩:ByteArray)++s++⟨#[32]⟩).data.toList=32::(s.toList++[32]):=by rw[ByteArray.data_append,ByteArray.data_append,ByteArray.toList_eq];simp
 have HCAT:=Hd hcat;have e2:s.data.toList=s.toList:=(ByteArray.toList_eq s).symm;have HE2:=Hd e2;clear hcat e2 hM h35 h36 g35 g36;go_enter Tryz.func75,Tryz.ntmps75;go_upto_region 1 with(fail);generalize w.alloc (.cells #[.int .u8 (37:Int),.int .i64 n,.string s] 33)=W1 at *;have e3:=HPK.out.c2;have e0:=HPK.out.c0;simp only[]at e3 e0;go_wp2_with fail;clear e0;go_loopw [13] (λiv wr=>gvRel s W1 iv wr) (λiv _=>5-(intOf iv).toNat)
 case atStart=>exact⟨0,rfl,Z,λj hj=>absurd hj (Nat.not_lt_zero _),rfl⟩
 case round =>
  obtain⟨i,rfl,hi,hno,rfl⟩:=hrel;have HNO:=Hd hno;clear hno;by_cases hlt:i<5
  .have hh:=zBv i s;have HNX:Hid (s.toList∉lvl i->gvRel s wr (.int .i64 ((i:Int)+1)) wr):=Hd λhn=>⟨i+1,by push_cast;rfl,Z,λj hj=>by
    by_cases e:j=i
    .subst e;exact hn
    .exact HNO.out j Z,rfl⟩
   have HYS:Hid (s.toList∈lvl i->Q (.returned (.int .i64 ((i:Int)+1))) wr):=Hd λhn=>HQ.out _ wr (by rw[HL.out,yEm hlt HNO.out hn];push_cast;rfl) HX.out
   clear hh;have hi5:i=0\/i=1\/i=2\/i=3\/i=4:=Z;have C1:=CB.out s ⟨#[32]⟩ Z wr HX.out;rw[HE2.out,show(⟨#[32]⟩:ByteArray).data.toList=[32]from rfl]at C1;have C1:=Hd C1;rcases hi5 with rfl|rfl|rfl|rfl|rfl
   .have hh:=zBv 0 s;have ix:∀W:World,(Instr.index 146 (.agg #[.string ⟨#[32,124,124,32]⟩,.string ⟨#[32,38,38,32]⟩,.string ⟨#[32,61,61,32,33,61,32,60,32,60,61,32,62,32,62,61,32]⟩,.string ⟨#[32,43,32,45,32,124,32,94,32]⟩,.string ⟨#[32,42,32,47,32,37,32,60,60,32,62,62,32,38,32,38,94,32]⟩]) (.int .i64 0)).run Tryz.prog W=.ok (.string ⟨#[32,124,124,32]⟩) W:=λ_=>by kernel_rfl
    rw[show jn (lvl 0)=[32,124,124,32]from rfl]at hh;have C2:=CB.out ⟨#[32,124,124,32]⟩ ((⟨#[32]⟩:ByteArray)++s++⟨#[32]⟩) V wr HX.out;rw[HCAT.out,show(⟨#[32,124,124,32]⟩:ByteArray).data.toList=[32,124,124,32]from rfl]at C2;have C2:=Hd C2;have HNX:Hid (s.toList∉lvl 0->gvRel s wr (.int .i64 1) wr):=Hd λhn=>by have h:=HNX.out hn;simpa using h
    have HYS:Hid (s.toList∈lvl 0->Q (.returned (.int .i64 1)) wr):=Hd λhn=>by have h:=HYS.out hn;simpa using h
    generalize Lib.contains [32,124,124,32] (32::(s.toList++[32]))=b2 at *;generalize Lib.contains s.toList [32]=b1 at *;by_cases he:s.toList.isEmpty=true
    .have he0:s.toList=[]:=by simpa using he
     have HZ:=Hd (HNX.out (by rw[he0]at hh ⊢;simpa using hh));clear hh he0;go_wp2_with fail;exact⟨HZ.out,by simp only[intOf];omega⟩
    .have he1:s.toList.isEmpty=false:=by simpa using he
     have he2:decide (s.toList≠[])=true:=by simpa using he
     rw[he2]at hh;clear he he2;cases b1 with
     |true =>
      have HZ:=Hd (HNX.out (by simpa using hh));clear hh;go_wp2_with fail;refine C1.out.mono ?_;rintro e w2 ⟨rfl,rfl⟩;go_wp2_with fail;go_roundw
      case rel=>exact HZ.out
      case measure=>simp only[intOf];omega
     |false =>
      cases b2 with
      |true =>
       have HZ:=Hd (HYS.out (by simpa using hh));clear hh;go_wp2_with fail;refine C1.out.mono ?_;rintro e w2 ⟨rfl,rfl⟩;go_wp2_with fail;refine C2.out.mono ?_;rintro e w3 ⟨rfl,rfl⟩;go_wp2_with fail;exact HZ.out
      |false =>
       have HZ:=Hd (HNX.out (by simpa using hh));clear hh;go_wp2_with fail;refine C1.out.mono ?_;rintro e w2 ⟨rfl,rfl⟩;go_wp2_with fail;refine C2.out.mono ?_;rintro e w3 ⟨rfl,rfl⟩;go_wp2_with fail;go_roundw
       case rel=>exact HZ.out
       case measure=>simp only[intOf];omega
   .have hh:=zBv 1 s;have ix:∀W:World,(Instr.index 146 (.agg #[.string ⟨#[32,124,124,32]⟩,.string ⟨#[32,38,38,32]⟩,.string ⟨#[32,61,61,32,33,61,32,60,32,60,61,32,62,32,62,61,32]⟩,.string ⟨#[32,43,32,45,32,124,32,94,32]⟩,.string ⟨#[32,42,32,47,32,37,32,60,60,32,62,62,32,38,32,38,94,32]⟩]) (.int .i64 1)).run Tryz.prog W=.ok (.string ⟨#[32,38,38,32]⟩) W:=λ_=>by kernel_rfl
    rw[show jn (lvl 1)=[32,38,38,32]from rfl]at hh;have C2:=CB.out ⟨#[32,38,38,32]⟩ ((⟨#[32]⟩:ByteArray)++s++⟨#[32]⟩) V wr HX.out;rw[HCAT.out,show(⟨#[32,38,38,32]⟩:ByteArray).data.toList=[32,38,38,32]from rfl]at C2;have C2:=Hd C2;have HNX:Hid (s.toList∉lvl 1->gvRel s wr (.int .i64 2) wr):=Hd λhn=>by have h:=HNX.out hn;simpa using h
    have HYS:Hid (s.toList∈lvl 1->Q (.returned (.int .i64 2)) wr):=Hd λhn=>by have h:=HYS.out hn;simpa using h
    generalize Lib.contains [32,38,38,32] (32::(s.toList++[32]))=b2 at *;generalize Lib.contains s.toList [32]=b1 at *;by_cases he:s.toList.isEmpty=true
    .have he0:s.toList=[]:=by simpa using he
     have HZ:=Hd (HNX.out (by rw[he0]at hh ⊢;simpa using hh));clear hh he0;go_wp2_with fail;exact⟨HZ.out,by simp only[intOf];omega⟩
    .have he1:s.toList.isEmpty=false:=by simpa using he
     have he2:decide (s.toList≠[])=true:=by simpa using he
     rw[he2]at hh;clear he he2;cases b1 with
     |true =>
      have HZ:=Hd (HNX.out (by simpa using hh));clear hh;go_wp2_with fail;refine C1.out.mono ?_;rintro e w2 ⟨rfl,rfl⟩;go_wp2_with fail;go_roundw
      case rel=>exact HZ.out
      case measure=>simp only[intOf];omega
     |false =>
      cases b2 with
      |true =>
       have HZ:=Hd (HYS.out (by simpa using hh));clear hh;go_wp2_with fail;refine C1.out.mono ?_;rintro e w2 ⟨rfl,rfl⟩;go_wp2_with fail;refine C2.out.mono ?_;rintro e w3 ⟨rfl,rfl⟩;go_wp2_with fail;exact HZ.out
      |false =>
       have HZ:=Hd (HNX.out (by simpa using hh));clear hh;go_wp2_with fail;refine C1.out.mono ?_;rintro e w2 ⟨rfl,rfl⟩;go_wp2_with fail;refine C2.out.mono ?_;rintro e w3 ⟨rfl,rfl⟩;go_wp2_with fail;go_roundw
       case rel=>exact HZ.out
       case measure=>simp only[intOf];omega
   .have hh:=zBv 2 s;have ix:∀W:World,(Instr.index 146 (.agg #[.string ⟨#[32,124,124,32]⟩,.string ⟨#[32,38,38,32]⟩,.string ⟨#[32,61,61,32,33,61,32,60,32,60,61,32,62,32,62,61,32]⟩,.string ⟨#[32,43,32,45,32,124,32,94,32]⟩,.string ⟨#[32,42,32,47,32,37,32,60,60,32,62,62,32,38,32,38,94,32]⟩]) (.int .i64 2)).run Tryz.prog W=.ok (.string ⟨#[32,61,61,32,33,61,32,60,32,60,61,32,62,32,62,61,32]⟩) W:=λ_=>by kernel_rfl
    rw[show jn (lvl 2)=[32,61,61,32,33,61,32,60,32,60,61,32,62,32,62,61,32]from rfl]at hh;have C2:=CB.out ⟨#[32,61,61,32,33,61,32,60,32,60,61,32,62,32,62,61,32]⟩ ((⟨#[32]⟩:ByteArray)++s++⟨#[32]⟩) V wr HX.out;rw[HCAT.out,show(⟨#[32,61,61,32,33,61,32,60,32,60,61,32,62,32,62,61,32]⟩:ByteArray).data.toList=[32,61,61,32,33,61,32,60,32,60,61,32,62,32,62,61,32]from rfl]at C2;have C2:=Hd C2;have HNX:Hid (s.toList∉lvl 2->gvRel s wr (.int .i64 3) wr):=Hd λhn=>by have h:=HNX.out hn;simpa using h
    have HYS:Hid (s.toList∈lvl 2->Q (.returned (.int .i64 3)) wr):=Hd λhn=>by have h:=HYS.out hn;simpa using h
    generalize Lib.contains [32,61,61,32,33,61,32,60,32,60,61,32,62,32,62,61,32] (32::(s.toList++[32]))=b2 at *;generalize Lib.contains s.toList [32]=b1 at *;by_cases he:s.toList.isEmpty=true
    .have he0:s.toList=[]:=by simpa using he
     have HZ:=Hd (HNX.out (by rw[he0]at hh ⊢;simpa using hh));clear hh he0;go_wp2_with fail;exact⟨HZ.out,by simp only[intOf];omega⟩
    .have he1:s.toList.isEmpty=false:=by simpa using he
     have he2:decide (s.toList≠[])=true:=by simpa using he
     rw[he2]at hh;clear he he2;cases b1 with
     |true =>
      have HZ:=Hd (HNX.out (by simpa using hh));clear hh;go_wp2_with fail;refine C1.out.mono ?_;rintro e w2 ⟨rfl,rfl⟩;go_wp2_with fail;go_roundw
      case rel=>exact HZ.out
      case measure=>simp only[intOf];omega
     |false =>
      cases b2 with
      |true =>
       have HZ:=Hd (HYS.out (by simpa using hh));clear hh;go_wp2_with fail;refine C1.out.mono ?_;rintro e w2 ⟨rfl,rfl⟩;go_wp2_with fail;refine C2.out.mono ?_;rintro e w3 ⟨rfl,rfl⟩;go_wp2_with fail;exact HZ.out
      |false =>
       have HZ:=Hd (HNX.out (by simpa using hh));clear hh;go_wp2_with fail;refine C1.out.mono ?_;rintro e w2 ⟨rfl,rfl⟩;go_wp2_with fail;refine C2.out.mono ?_;rintro e w3 ⟨rfl,rfl⟩;go_wp2_with fail;go_roundw
       case rel=>exact HZ.out
       case measure=>simp only[intOf];omega
   .have hh:=zBv 3 s;have ix:∀W:World,(Instr.index 146 (.agg #[.string ⟨#[32,124,124,32]⟩,.string ⟨#[32,38,38,32]⟩,.string ⟨#[32,61,61,32,33,61,32,60,32,60,61,32,62,32,62,61,32]⟩,.string ⟨#[32,43,32,45,32,124,32,94,32]⟩,.string ⟨#[32,42,32,47,32,37,32,60,60,32,62,62,32,38,32,38,94,32]⟩]) (.int .i64 3)).run Tryz.prog W=.ok (.string ⟨#[32,43,32,45,32,124,32,94,32]⟩) W:=λ_=>by kernel_rfl
    rw[show jn (lvl 3)=[32,43,32,45,32,124,32,94,32]from rfl]at hh;have C2:=CB.out ⟨#[32,43,32,45,32,124,32,94,32]⟩ ((⟨#[32]⟩:ByteArray)++s++⟨#[32]⟩) V wr HX.out;rw[HCAT.out,show(⟨#[32,43,32,45,32,124,32,94,32]⟩:ByteArray).data.toList=[32,43,32,45,32,124,32,94,32]from rfl]at C2;have C2:=Hd C2;have HNX:Hid (s.toList∉lvl 3->gvRel s wr (.int .i64 4) wr):=Hd λhn=>by have h:=HNX.out hn;simpa using h
    have HYS:Hid (s.toList∈lvl 3->Q (.returned (.int .i64 4)) wr):=Hd λhn=>by have h:=HYS.out hn;simpa using h
    generalize Lib.contains [32,43,32,45,32,124,32,94,32] (32::(s.toList++[32]))=b2 at *;generalize Lib.contains s.toList [32]=b1 at *;by_cases he:s.toList.isEmpty=true
    .have he0:s.toList=[]:=by simpa using he
     have HZ:=Hd (HNX.out (by rw[he0]at hh ⊢;simpa using hh));clear hh he0;go_wp2_with fail;exact⟨HZ.out,by simp only[intOf];omega⟩
    .have he1:s.toList.isEmpty=false:=by simpa using he
     have he2:decide (s.toList≠[])=true:=by simpa using he
     rw[he2]at hh;clear he he2;cases b1 with
     |true =>
      have HZ:=Hd (HNX.out (by simpa using hh));clear hh;go_wp2_with fail;refine C1.out.mono ?_;rintro e w2 ⟨rfl,rfl⟩;go_wp2_with fail;go_roundw
      case rel=>exact HZ.out
      case measure=>simp only[intOf];omega
     |false =>
      cases b2 with
      |true =>
       have HZ:=Hd (HYS.out (by simpa using hh));clear hh;go_wp2_with fail;refine C1.out.mono ?_;rintro e w2 ⟨rfl,rfl⟩;go_wp2_with fail;refine C2.out.mono ?_;rintro e w3 ⟨rfl,rfl⟩;go_wp2_with fail;exact HZ.out
      |false =>
       have HZ:=Hd (HNX.out (by simpa using hh));clear hh;go_wp2_with fail;refine C1.out.mono ?_;rintro e w2 ⟨rfl,rfl⟩;go_wp2_with fail;refine C2.out.mono ?_;rintro e w3 ⟨rfl,rfl⟩;go_wp2_with fail;go_roundw
       case rel=>exact HZ.out
       case measure=>simp only[intOf];omega
   .have hh:=zBv 4 s;have ix:∀W:World,(Instr.index 146 (.agg #[.string ⟨#[32,124,124,32]⟩,.string ⟨#[32,38,38,32]⟩,.string ⟨#[32,61,61,32,33,61,32,60,32,60,61,32,62,32,62,61,32]⟩,.string ⟨#[32,43,32,45,32,124,32,94,32]⟩,.string ⟨#[32,42,32,47,32,37,32,60,60,32,62,62,32,38,32,38,94,32]⟩]) (.int .i64 4)).run Tryz.prog W=.ok (.string ⟨#[32,42,32,47,32,37,32,60,60,32,62,62,32,38,32,38,94,32]⟩) W:=λ_=>by kernel_rfl
    rw[show jn (lvl 4)=[32,42,32,47,32,37,32,60,60,32,62,62,32,38,32,38,94,32]from rfl]at hh;have C2:=CB.out ⟨#[32,42,32,47,32,37,32,60,60,32,62,62,32,38,32,38,94,32]⟩ ((⟨#[32]⟩:ByteArray)++s++⟨#[32]⟩) V wr HX.out;rw[HCAT.out,show(⟨#[32,42,32,47,32,37,32,60,60,32,62,62,32,38,32,38,94,32]⟩:ByteArray).data.toList=[32,42,32,47,32,37,32,60,60,32,62,62,32,38,32,38,94,32]from rfl]at C2;have C2:=Hd C2;have HNX:Hid (s.toList∉lvl 4->gvRel s wr (.int .i64 5) wr):=Hd λhn=>by have h:=HNX.out hn;simpa using h
    have HYS:Hid (s.toList∈lvl 4->Q (.returned (.int .i64 5)) wr):=Hd λhn=>by have h:=HYS.out hn;simpa using h
    generalize Lib.contains [32,42,32,47,32,37,32,60,60,32,62,62,32,38,32,38,94,32] (32::(s.toList++[32]))=b2 at *;generalize Lib.contains s.toList [32]=b1 at *;by_cases he:s.toList.isEmpty=true
    .have he0:s.toList=[]:=by simpa using he
     have HZ:=Hd (HNX.out (by rw[he0]at hh ⊢;simpa using hh));clear hh he0;go_wp2_with fail;exact⟨HZ.out,by simp only[intOf];omega⟩
    .have he1:s.toList.isEmpty=false:=by simpa using he
     have he2:decide (s.toList≠[])=true:=by simpa using he
     rw[he2]at hh;clear he he2;cases b1 with
     |true =>
      have HZ:=Hd (HNX.out (by simpa using hh));clear hh;go_wp2_with fail;refine C1.out.mono ?_;rintro e w2 ⟨rfl,rfl⟩;go_wp2_with fail;go_roundw
      case rel=>exact HZ.out
      case measure=>simp only[intOf];omega
     |false =>
      cases b2 with
      |true =>
       have HZ:=Hd (HYS.out (by simpa using hh));clear hh;go_wp2_with fail;refine C1.out.mono ?_;rintro e w2 ⟨rfl,rfl⟩;go_wp2_with fail;refine C2.out.mono ?_;rintro e w3 ⟨rfl,rfl⟩;go_wp2_with fail;exact HZ.out
      |false =>
       have HZ:=Hd (HNX.out (by simpa using hh));clear hh;go_wp2_with fail;refine C1.out.mono ?_;rintro e w2 ⟨rfl,rfl⟩;go_wp2_with fail;refine C2.out.mono ?_;rintro e w3 ⟨rfl,rfl⟩;go_wp2_with fail;go_roundw
       case rel=>exact HZ.out
       case measure=>simp only[intOf];omega
  .obtain rfl:i=5:=Z;have HZ:=Hd (HQ.out 1 wr (by rw[HL.out,zZq HNO.out];rfl) HX.out);go_wp2_with fail;exact HZ.out
theorem zWa(p:Prt):yE p<=10:=by
 unfold yE lvW;by_cases h1:p.1=36\/p.1=35
 .rw[iP h1];omega
 .rw[iN h1];by_cases h2:p.1=37
  .rw[iP h2]
   repeat' split
   all_goals omega
  .rw[iN h2];omega
theorem zOp(p:Prt)(nth:Nat)(hn:nth<100000000)(hs:p.2.2.size<=1048576)(w:World)(hM:MaxC w) :
  Calls Tryz.prog 76 #[partA p,.int .i64 (nth:Int)] w λe w'=>e=.returned (.int .i64 (zR p nth:Int))/\Below w.heap.size w w':=by
 have HQ:Hid (∀x w',(zR p nth:Int)=x->Below w.heap.size w w'->(λ(e:Ending) w'=>e=.returned (.int .i64 (zR p nth:Int))/\Below w.heap.size w w') (.returned (.int .i64 x)) w'):=Hd λx w' h hb=>⟨by rw[h],hb⟩
 generalize(λ(e:Ending) w'=>e=.returned (.int .i64 (zR p nth:Int))/\Below w.heap.size w w')=Q at *;obtain⟨k,n,s⟩:=p;have HV:=Hd (λW (hb:Below w.heap.size w W)=>zFr (k,n,s) hs W (hM.below hb));unfold partA at HV ⊢;simp only[]at hs HQ HV ⊢;have HX:=Hd ((bR w.heap.size w).alloc (nR _) (.cells #[.int .u8 (k:Int),.int .i64 n,.string s] 33));have HPK:Hid (PK (w.alloc (.cells #[.int .u8 (k:Int),.int .i64 n,.string s] 33)) w.heap.size (k,n,s)):=Hd (PK.alloc_new w (k,n,s));by_cases h37:k=37
 .subst h37;rw[show((37:Nat):Int)=(37:Int)from rfl]at HX HPK HV ⊢;have hl:zR (37,n,s) nth=if nth=0 then yE (37,n,s)else if nth=1 then yE (37,n,s)+1 else 0:=by unfold zR;rw[iP rfl]
  have hlv:yE (37,n,s)<=10:=zWa _;generalize yE (37,n,s)=lv at *;by_cases h0:nth=0
  .subst h0;rw[iP rfl]at hl;have HJ:=Hd hl;clear hl;clear hM;go_enter Tryz.func76,Tryz.ntmps76;go_upto_region 1 with(fail);generalize w.alloc (.cells #[.int .u8 (37:Int),.int .i64 n,.string s] 33)=W1 at *;have p0:=HPK.out.c0;have p1:=HPK.out.c1;have p2:=HPK.out.c2;simp only[]at p0 p1 p2;go_wp2_with fail;refine(HV.out W1 HX.out).mono ?_;rintro e w2 ⟨rfl,hb⟩;have HZ:=Hd (HQ.out _ w2 (by rw[HJ.out]) (zD HX.out hb));clear hb p0 p1 p2;go_wp2_with fail;exact HZ.out
  by_cases h1:nth=1
  .subst h1;rw[iN V,iP rfl]at hl;have HJ:=Hd hl;clear hl;clear hM;go_enter Tryz.func76,Tryz.ntmps76;go_upto_region 1 with(fail);generalize w.alloc (.cells #[.int .u8 (37:Int),.int .i64 n,.string s] 33)=W1 at *;have p0:=HPK.out.c0;have p1:=HPK.out.c1;have p2:=HPK.out.c2;simp only[]at p0 p1 p2;go_wp2_with fail;refine(HV.out W1 HX.out).mono ?_;rintro e w2 ⟨rfl,hb⟩;have HZ:=Hd (HQ.out _ w2 (by rw[HJ.out]) (zD HX.out hb));clear hb p0 p1 p2;go_wp2_with fail;exact HZ.out
  have HJ:=Hd (by rw[iN h0,iN h1]at hl;exact hl:zR (37,n,s) nth=0);have g0:((nth:Int)==0)=false:=by rw[bE];omega
  have g1:((nth:Int)==1)=false:=by rw[bE];omega
  clear hl h0 h1;clear hM;go_enter Tryz.func76,Tryz.ntmps76;go_upto_region 1 with(fail);generalize w.alloc (.cells #[.int .u8 (37:Int),.int .i64 n,.string s] 33)=W1 at *;have p0:=HPK.out.c0;have p1:=HPK.out.c1;have p2:=HPK.out.c2;simp only[]at p0 p1 p2;go_wp2_with fail;have HZ:=Hd (HQ.out 0 W1 (by rw[HJ.out];rfl) HX.out);exact HZ.out
 have g37:((k:Int)==37)=false:=by rw[bE];omega
 by_cases h36:k=36
 .subst h36;clear g37 h37;rw[show((36:Nat):Int)=(36:Int)from rfl]at HX HPK ⊢;have HJ:=Hd (by unfold zR;simp:zR (36,n,s) nth=6);clear hM;go_enter Tryz.func76,Tryz.ntmps76;go_upto_region 1 with(fail);generalize w.alloc (.cells #[.int .u8 (36:Int),.int .i64 n,.string s] 33)=W1 at *;have p0:=HPK.out.c0;have p1:=HPK.out.c1;have p2:=HPK.out.c2;simp only[]at p0 p1 p2;go_wp2_with fail;have HZ:=Hd (HQ.out 6 W1 (by rw[HJ.out];rfl) HX.out);exact HZ.out
 by_cases h35:k=35
 .subst h35;clear g37 h37;rw[show((35:Nat):Int)=(35:Int)from rfl]at HX HPK ⊢;have HJ:=Hd (by unfold zR;simp:zR (35,n,s) nth=6);clear hM;go_enter Tryz.func76,Tryz.ntmps76;go_upto_region 1 with(fail);generalize w.alloc (.cells #[.int .u8 (35:Int),.int .i64 n,.string s] 33)=W1 at *;have p0:=HPK.out.c0;have p1:=HPK.out.c1;have p2:=HPK.out.c2;simp only[]at p0 p1 p2;go_wp2_with fail;have HZ:=Hd (HQ.out 6 W1 (by rw[HJ.out];rfl) HX.out);exact HZ.out
 have g36:((k:Int)==36)=false:=by rw[bE];omega
 have g35:((k:Int)==35)=false:=by rw[bE];omega
 by_cases hkk:29<=k/\k<=34
 .have hk6:k=29\/k=30\/k=31\/k=32\/k=33\/k=34:=Z;clear g35 g36 g37;by_cases ht:nth=0
  .subst ht;have hj:zR (k,n,s) 0=7:=by unfold zR;rw[iN h37,iN (by simp only[];omega),iP hkk,iP rfl]
   have HJ:=Hd hj;clear hj h35 h36 h37 hkk;rcases hk6 with rfl|rfl|rfl|rfl|rfl|rfl;all_goals
    clear hM;go_enter Tryz.func76,Tryz.ntmps76;go_upto_region 1 with(fail);have p0:=HPK.out.c0;have p1:=HPK.out.c1;have p2:=HPK.out.c2;simp only[]at p0 p1 p2;go_wp2_with fail;have HZ:=Hd (HQ.out 7 _ (by rw[HJ.out];rfl) HX.out);exact HZ.out
  .have hj:zR (k,n,s) nth=0:=by unfold zR;rw[iN h37,iN (by simp only[];omega),iP hkk,iN ht]
   have g0:((nth:Int)==0)=false:=by rw[bE];omega
   clear ht;have HJ:=Hd hj;clear hj h35 h36 h37 hkk;rcases hk6 with rfl|rfl|rfl|rfl|rfl|rfl;all_goals
    clear hM;go_enter Tryz.func76,Tryz.ntmps76;go_upto_region 1 with(fail);have p0:=HPK.out.c0;have p1:=HPK.out.c1;have p2:=HPK.out.c2;simp only[]at p0 p1 p2;go_wp2_with fail;have HZ:=Hd (HQ.out 0 _ (by rw[HJ.out];rfl) HX.out);exact HZ.out
 have g29:((k:Int)==29)=false:=by rw[bE];omega
 have g30:((k:Int)==30)=false:=by rw[bE];omega
 have g31:((k:Int)==31)=false:=by rw[bE];omega
 have g32:((k:Int)==32)=false:=by rw[bE];omega
 have g33:((k:Int)==33)=false:=by rw[bE];omega
 have g34:((k:Int)==34)=false:=by rw[bE];omega
 by_cases h61:k=61
 .subst h61;rw[show((61:Nat):Int)=(61:Int)from rfl]at HX HPK ⊢;clear g35 g36 g37 h35 h36 h37 hkk;clear g29 g30 g31 g32 g33 g34;by_cases ht:nth=2
  .subst ht;have HJ:=Hd (by unfold zR;simp:zR (61,n,s) 2=7);clear hM;go_enter Tryz.func76,Tryz.ntmps76;go_upto_region 1 with(fail);generalize w.alloc (.cells #[.int .u8 (61:Int),.int .i64 n,.string s] 33)=W1 at *;have p0:=HPK.out.c0;have p1:=HPK.out.c1;have p2:=HPK.out.c2;simp only[]at p0 p1 p2;go_wp2_with fail;have HZ:=Hd (HQ.out 7 W1 (by rw[HJ.out];rfl) HX.out);exact HZ.out
  .have g0:((nth:Int)==2)=false:=by rw[bE];omega
   have hj:zR (61,n,s) nth=0:=by unfold zR;simp[ht]
   clear ht;have HJ:=Hd (by exact hj:zR (61,n,s) nth=0);clear hM;go_enter Tryz.func76,Tryz.ntmps76;go_upto_region 1 with(fail);generalize w.alloc (.cells #[.int .u8 (61:Int),.int .i64 n,.string s] 33)=W1 at *;have p0:=HPK.out.c0;have p1:=HPK.out.c1;have p2:=HPK.out.c2;simp only[]at p0 p1 p2;go_wp2_with fail;have HZ:=Hd (HQ.out 0 W1 (by rw[HJ.out];rfl) HX.out);exact HZ.out
 have g61:((k:Int)==61)=false:=by rw[bE];omega
 have hj:zR (k,n,s) nth=0:=by unfold zR;rw[iN h37,iN (by simp only[];omega),iN (by simp only[];omega),iN h61]
 clear h37 h36 h35 hkk h61;have HJ:=Hd (by exact hj:zR (k,n,s) nth=0);clear hM;go_enter Tryz.func76,Tryz.ntmps76;go_upto_region 1 with(fail);generalize w.alloc (.cells #[.int .u8 (k:Int),.int .i64 n,.string s] 33)=W1 at *;have p0:=HPK.out.c0;have p1:=HPK.out.c1;have p2:=HPK.out.c2;simp only[]at p0 p1 p2;go_wp2_with fail;have HZ:=Hd (HQ.out 0 W1 (by rw[HJ.out];rfl) HX.out);exact HZ.out
end Go.Proofs.YtfpjdpdmgceciaaGreatDoor
