/- Layer 11: the document's among and Spelt, walked. -/
import Derived.Test.YtfpjdpdmgceciaaGreatDoorCoreTg
import Derived.Test.YtfpjdpdmgceciaaGreatDoorRowPTg
import Derived.Test.YtfpjdpdmgceciaaGreatDoorCheckBTg
import Derived.Test.YtfpjdpdmgceciaaGreatDoorClassTg
import Derived.Test.YtfpjdpdmgceciaaGreatDoorScanPTg
import Derived.Test.YtfpjdpdmgceciaaGreatDoorRef06Tg
import Derived.StillTailTactics
namespace Go.Proofs.YtfpjdpdmgceciaaGreatDoor
set_option maxRecDepth 100000
set_option maxHeartbeats 32000000
set_option linter.all false
open Go.RowKit
theorem zVu(s:ByteArray)(ws:List (List UInt8))(hl:ws.length<=1000)(v:Value)(w:World)(hr:Row w v ws.length 1 (strV ws)) :
  Calls Tryz.prog 44 #[.string s,v] w λe w'=>e=.returned (.bool (decide (s.toList∈ws)))/\w=w':=by
 have HQ:Hid (∀x,decide (s.toList∈ws)=x->(λ(e:Ending) w'=>e=.returned (.bool (decide (s.toList∈ws)))/\w=w') (.returned (.bool x)) w):=Hd λx h=>⟨by rw[h],rfl⟩
 generalize(λ(e:Ending) w'=>e=.returned (.bool (decide (s.toList∈ws)))/\w=w')=Q at *;obtain⟨_,a,cap,rfl,hc,_,hcell⟩:=hr;have HC:=Hd hcell;clear hcell;go_enter Tryz.func44,Tryz.ntmps44;go_wp2_with fail
 go_loop [5] (λi=>∃k:Nat,i=.int .i64 k/\k<=ws.length/\∀j,j<k->∀x,ws[j]?=some x->x≠s.toList) (λi=>ws.length-(intOf i).toNat)
 case atStart=>exact⟨0,rfl,Nat.zero_le _,λj h=>Z⟩
 case round =>
  obtain⟨k,rfl,hk,hno⟩:=hrel;have HN:=Hd hno;clear hno;by_cases hlt:k<ws.length
  .obtain⟨b,off,rfl,hbl,hcl⟩:=HC.out Z;have h0:w.cell? ⟨b,off+k,none⟩=some (.string ⟨(ws[k]).toArray⟩):=by rw[hcl _ Z];simp[strV,hlt]
   have hkl:(k:Int)<ws.length:=Z;have hk0:(0:Int)<=k:=Z;have hkc:(k:Int)<cap:=Z;have hwk:IntKind.i64.wrap ((k:Int)+1)=(k:Int)+1:=wI Z;have hB:=zFn ws[k];have HX:=Hd (show ws[k]?=some ws[k]by simp[hlt]);generalize(⟨(ws[k]).toArray⟩:ByteArray)=B at *;generalize ws[k]=x at *;by_cases he:x=s.toList
   .have f1:(B.toList==s.toList)=true:=by rw[beq_iff_eq,hB,he]
    have HF:=Hd (show decide (s.toList∈ws)=true from decide_eq_true (by rw[<-he];exact List.mem_of_getElem? HX.out));clear hB he hcl;go_wp2_with fail;exact HQ.out _ HF.out
   .have f1:(B.toList==s.toList)=false:=by rw[bE,hB];exact he
    have HR:Hid (∀j,j<k+1->∀x,ws[j]?=some x->x≠s.toList):=Hd λj hj y hy=>by
     by_cases e:j=k
     .subst e;rw[HX.out]at hy;cases hy;exact he
     .exact HN.out j Z y hy
    have HK1:Hid (k+1<=ws.length):=Hd hlt;have HML:Hid (ws.length-(k+1)<ws.length-k):=Hd Z;clear hB he hcl HX;go_wp2_with fail
    go_round
    case rel=>exact⟨k+1,by go_num,HK1.out,HR.out⟩
    case measure=>have:=HML.out;simp[intOf];omega
  .have hkl:¬(k:Int)<ws.length:=Z;have HF:=Hd (show decide (s.toList∈ws)=false from decide_eq_false λhm=>by
    obtain⟨i,hi,he⟩:=List.getElem_of_mem hm;exact HN.out i Z ws[i] (by simp[hi]) he)
   go_wp2_with fail;exact HQ.out _ HF.out
def SpP(k:Nat)(s:ByteArray)(w:World)(e:Ending)(w':World):Prop:=∃z,e=.returned (.bool z)/\(z=true->(decide (k=27) || sptB k s)=true)/\Below w.heap.size w w'
theorem zVv(k:Nat)(hk:k<69)(s:ByteArray)(w:World)(hs:s.size<=2147483647) :
  Calls Tryz.prog 27 #[.int .u8 (k:Int),.string s] w (SpP k s w):=by
 have HQ:Hid (∀x w',(k=27\/sptB k s=x)->Below w.heap.size w w'->SpP k s w (.returned (.bool x)) w'):=Hd λx w' h hb=>⟨x,rfl,λe=>by
  rcases h with h|h
  .simp[h]
  .simp[h,e],hb⟩
 generalize SpP k s w=Q at HQ ⊢;by_cases k26:k=26
 .have C1:=Hd (yCk s w Z);have HV:=Hd (show sptB k s=name s by unfold sptB;rw[iP k26]);have f26:((k:Int)==26)=true:=by rw[beq_iff_eq];omega
  clear k26;go_enter Tryz.func27,Tryz.ntmps27;go_wp2_with fail;refine C1.out.mono ?_;rintro e w1 ⟨rfl,hb⟩;generalize name s=x at *;go_wp2_with fail;exact HQ.out _ _ (Or.inr HV.out) hb
 have f26:((k:Int)==26)=false:=by rw[bE];omega
 by_cases k27:k=27
 .have C1:=Hd (zQl s hs w);have C2:=Hd (λw=>yCm s hs w);have HX:=Hd (λx w'=>HQ.out x w' (Or.inl k27));have f27:((k:Int)==27)=true:=by rw[beq_iff_eq];omega
  clear k26 k27;go_enter Tryz.func27,Tryz.ntmps27;go_wp2_with fail;refine C1.out.mono ?_;rintro e w1 ⟨v1,v2,rfl,hb⟩;have HB:=Hd hb;clear hb;by_cases hv:v2=0
  .have hvb:(v2==0)=true:=by rw[beq_iff_eq];exact hv
   clear hv;go_wp2_with fail;exact HX.out _ _ HB.out
  .have hvb:(v2==0)=false:=by rw[bE];exact hv
   clear hv;go_wp2_with fail;refine(C2.out _).mono ?_;rintro e w2 ⟨q,rfl,rfl⟩;go_wp2_with fail;exact HX.out _ _ HB.out
 have f27:((k:Int)==27)=false:=by rw[bE];omega
 have C1:=Hd (zVf k Z w);have HV:=Hd (jY s k26 k27);clear k26 k27;go_enter Tryz.func27,Tryz.ntmps27;go_wp2_with fail;refine C1.out.mono ?_;intro e w1 h1;unfold rowPost at h1;rw[iP hk]at h1;obtain⟨hb,vs,rfl,hrow⟩:=h1;have HB:=Hd hb;clear hb C1;have hrow2:=hrow.below ((bR _ _).alloc (nR _) (.cells #[.int .i64 ((arL k).1:Int),.bool (arL k).2,.bool (noneT k),vs] 69));obtain⟨_,va,vc,rfl,_⟩:=hrow;have hwl:(wordsT k).length<=1000:=by
  by_cases h:k<67
  .have:∀k,k<67->(wordsT k).length<=1000:=V;exact this k h
  .have e:wordsT k=[]:=by unfold wordsT;repeat rw[iN Z]
   rw[e];simp
 have C2:=Hd (zVu s (wordsT k) hwl _ _ hrow2);have HB2:=Hd (HB.out.alloc HB.out.size (.cells #[.int .i64 ((arL k).1:Int),.bool (arL k).2,.bool (noneT k),.slice va (wordsT k).length vc] 69));clear hrow2 hwl;generalize decide (s.toList∈wordsT k)=am at *;generalize(wordsT k).length=n at *;generalize noneT k=nn at *;generalize arL k=ar at *;obtain⟨x,y⟩:=ar;by_cases he:s.toList=[]
 .have he2:s.toList.isEmpty=true:=by rw[he];rfl
  cases nn with
  |true =>
   have HX:=Hd (show sptB k s=true by rw[HV.out,he2];rfl);clear HV;go_wp2_with fail;exact HQ.out _ _ (Or.inr HX.out) HB2.out
  |false =>
   have HX:=Hd (show sptB k s=am by rw[HV.out,he2];rfl);clear HV;go_wp2_with fail;refine C2.out.mono ?_;rintro e w2 ⟨rfl,rfl⟩;go_wp2_with fail;exact HQ.out _ _ (Or.inr HX.out) HB2.out
 .have he2:s.toList.isEmpty=false:=by cases h:s.toList with
   |nil=>exact absurd h he
   |cons a l=>rfl
  have HX:=Hd (show sptB k s=am by rw[HV.out,he2];rfl);clear HV;go_wp2_with fail;refine C2.out.mono ?_;rintro e w2 ⟨rfl,rfl⟩;go_wp2_with fail;exact HQ.out _ _ (Or.inr HX.out) HB2.out
attribute [local irreducible] wpStill
def partC(p:Prt):Bool:=decide (p.1<=68)&&(decide (((arL p.1).1:Int)<=p.2.1)&&((decide (p.2.1=(arL p.1).1) || (arL p.1).2)&&(decide (p.1=27) || sptB p.1 p.2.2)))
def CkP(l:List Prt)(w:World)(e:Ending)(w':World):Prop:=∃x:Int,e=.returned (.int .i64 x)/\(x=0->zT l=true/\∀p∈l,partC p=true)/\Below w.heap.size w w'
@[irreducible] def ckRel(l:List Prt)(w:World)(i:Value)(wr:World):Prop:=∃k:Nat,i=.int .i64 (k:Int)/\k<=l.length/\(∀j (hj:j<l.length),j<k->partC l[j]=true)/\Below w.heap.size w wr
theorem zOj(l:List Prt)(hl:l.length<=1000000000)(hf:FineP l)(v:Value)(w:World)(hr:zG w v l):Calls Tryz.prog 15 #[v] w (CkP l w):=by
 have HQ:Hid (∀x w',(x=0->zT l=true/\∀p∈l,partC p=true)->Below w.heap.size w w'->CkP l w (.returned (.int .i64 x)) w'):=Hd λx w' h hb=>⟨x,rfl,h,hb⟩
 generalize CkP l w=Q at HQ ⊢;have H8:=Hd (λw'=>HQ.out 8 w' (λh=>absurd h V));have HR:=Hd hr;have HF:=Hd hf;have C1:=Hd (zIy l hl v w hr);obtain⟨va,vcap,rfl,hvc⟩:=hr.slice;clear hr hf;go_enter Tryz.func15,Tryz.ntmps15;go_wp2_with fail;refine C1.out.mono ?_;rintro e w1 ⟨rfl,rfl⟩;clear C1;cases hw:zT l with
 |false =>
  clear hw;go_wp2_with fail;exact H8.out _ (bR _ _)
 |true =>
  have HW:=Hd hw;clear hw;go_wp2_with fail;go_loopw [3] (λi wr=>ckRel l w i wr) (λi _=>l.length-(intOf i).toNat)
  case atStart=>unfold ckRel;exact⟨0,rfl,Nat.zero_le _,λj _ h=>Z,bR _ _⟩
  case round =>
   unfold ckRel at hrel;obtain⟨k,rfl,hk,hyes,hb⟩:=hrel;have HB:=Hd hb;have HY:=Hd hyes;clear hb hyes;by_cases hlt:k<l.length
   .have hkl:(k:Int)<l.length:=Z;obtain⟨b1,o1,rfl,_,_,_,hc1⟩:=HR.out.at HB.out (show 0<l.length by omega);obtain⟨d0,d1,d2⟩:=hc1 k hlt;have hk0:(0:Int)<=k:=Z;have hkc:(k:Int)<vcap:=Z;have hwk:IntKind.i64.wrap ((k:Int)+1)=(k:Int)+1:=wI Z;obtain⟨hk256,hsz⟩:=HF.out.at hlt;have HML:Hid (l.length-(k+1)<l.length-k):=Hd Z;have HGO:Hid (∀w',partC l[k]=true->Below w.heap.size w w'->ckRel l w (.int .i64 ((k+1:Nat):Int)) w'):=Hd λw' h hb=>by
     unfold ckRel;refine⟨k+1,rfl,hlt,λj hj hlt=>?_,hb⟩;by_cases e:j=k
     .subst e;exact h
     .exact HY.out j hj Z
    have HPR:Hid (∀W',Below w.heap.size w W'->W'.cell? ⟨b1,o1+k*3,none⟩=some (.int .u8 ((l[k]).1:Int))/\W'.cell? ⟨b1,o1+k*3+1,none⟩=some (.int .i64 (l[k]).2.1)/\W'.cell? ⟨b1,o1+k*3+2,none⟩=some (.string (l[k]).2.2)):=Hd λW' hb=>by
     obtain⟨b2,o2,hbb,_,_,_,hc2⟩:=HR.out.at hb (show 0<l.length by omega);simp only[Option.some.injEq,Addr.mk.injEq,and_true]at hbb;obtain⟨rfl,rfl⟩:=hbb;exact hc2 k hlt
    unfold partC at HGO;clear hc1;generalize l[k]=x at *;obtain⟨xk,xn,xw⟩:=x;simp only[]at d0 d1 d2 hk256 hsz HGO HPR;have CR:=Hd (zVf xk hk256 wr);go_wp2_with fail;refine CR.out.mono ?_;intro e w2 h2;unfold rowPost at h2;obtain⟨hb2,h2⟩:=h2;have HB2:=Hd (zD HB.out hb2);clear hb2;by_cases h69:xk<69
    .rw[iP h69]at h2;obtain⟨vs,rfl,hrow⟩:=h2;obtain⟨_,sa,sc,rfl,_⟩:=hrow;have CS:=Hd (λw=>zVv xk h69 xw w hsz);clear hsz hk256;generalize(wordsT xk).length=sn at *;generalize noneT xk=nn at *;generalize arL xk=ar at *;obtain⟨sp,hsp⟩:∃sp,(decide (xk=27) || sptB xk xw)=sp:=⟨_,rfl⟩;rw[hsp]at HGO;have HSP:=Hd hsp;clear hsp;obtain⟨am,ab⟩:=ar;simp only[]at HGO;have HBA:=Hd (HB2.out.alloc HB2.out.size (.cells #[.int .i64 (am:Int),.bool ab,.bool nn,.slice sa sn sc] 69));have q0:(w2.alloc (.cells #[.int .i64 (am:Int),.bool ab,.bool nn,.slice sa sn sc] 69)).cell? ⟨w2.heap.size,0,none⟩=some (.int .i64 (am:Int)):=by rw[World.cell?_alloc_at _ _ _ _ rfl];rfl
     have q1:(w2.alloc (.cells #[.int .i64 (am:Int),.bool ab,.bool nn,.slice sa sn sc] 69)).cell? ⟨w2.heap.size,1,none⟩=some (.bool ab):=by rw[World.cell?_alloc_at _ _ _ _ rfl];rfl
     obtain⟨d3,d4,d5⟩:=HPR.out _ HBA.out;have ham:¬(am:Int)<0:=Z;clear d0 d1 d2 CR HPR;have hcs:xn<(am:Int)\/(¬xn<(am:Int)/\ab=false/\(xn==(am:Int))=false/\(xn != (am:Int))=true)\/(¬xn<(am:Int)/\ab=true)\/(¬xn<(am:Int)/\ab=false/\(xn==(am:Int))=true/\(xn != (am:Int))=false):=by
      cases ab<;>simp only[bE,bne_iff_ne,beq_iff_eq,bne_eq_false_iff_eq,ne_eq]<;>simp<;>omega
     rcases hcs with c2i|⟨c2i,rfl,c3b,c3n⟩|hcs
     iterate 2
      .go_upto_region 7 with(fail);generalize w2.alloc _=WW at *;generalize w2.heap.size=gg at *;go_still_tail 41,Oa;have HB3:=Hd HBA.out.drew;go_wp2_with fail;exact H8.out _ HB3.out
     have HP:Hid (sp=true->(decide (xk<=68)&&(decide ((am:Int)<=xn)&&((decide (xn=(am:Int)) || ab)&&sp)))=true):=Hd λh=>by
      rcases hcs with⟨c,rfl⟩|⟨c,rfl,c3,_⟩
      .simp[h];omega
      .simp at c3;simp[h,c3];omega
     rcases hcs with⟨c2i,rfl⟩|⟨c2i,rfl,c3b,c3n⟩;all_goals
      go_upto_region 7 with(fail);generalize w2.alloc _=WW at *;generalize w2.heap.size=gg at *;go_still_tail 39,Oa;change wpList _ _ _ _ _ (World.drew _);have HBD:=Hd HBA.out.drew;generalize WW.drew=WD at *;go_wp2_with fail;refine(CS.out _).mono ?_;rintro e w3 ⟨z,rfl,hz,hb3⟩;have HB3:=Hd (zD HBD.out hb3);clear hb3;cases z with
      |false =>
       go_wp2_with fail;exact H8.out _ HB3.out
      |true =>
       have HRL:=Hd (HGO.out w3 (HP.out (HSP.out.symm.trans (hz rfl))) HB3.out);go_wp2_with fail;exact⟨HRL.out,by have:=HML.out;simp[intOf];try omega⟩
    .rw[iN h69]at h2;subst h2;have HBA:=Hd (HB2.out.alloc HB2.out.size (.cells #[.int .i64 (-1),.bool false,.bool false,.slice none 0 0] 69));have q0:(w2.alloc (.cells #[.int .i64 (-1),.bool false,.bool false,.slice none 0 0] 69)).cell? ⟨w2.heap.size,0,none⟩=some (.int .i64 (-1)):=by rw[World.cell?_alloc_at _ _ _ _ rfl];rfl
     clear d0 d1 d2 CR HPR;go_upto_region 7 with(fail);generalize w2.alloc _=WW at *;generalize w2.heap.size=gg at *;go_still_tail 41,Oa;have HB3:=Hd HBA.out.drew;go_wp2_with fail;exact H8.out _ HB3.out
   .have hkl:¬(k:Int)<l.length:=Z;go_wp2_with fail;exact HQ.out _ _ (λ_=>⟨HW.out,λp hp=>by obtain⟨j,hj,rfl⟩:=List.getElem_of_mem hp;exact HY.out j hj Z⟩) HB.out
end Go.Proofs.YtfpjdpdmgceciaaGreatDoor
