/- Layer 11: the loop of the program's Swap, walked. -/
import Derived.Test.YtfpjdpdmgceciaaGreatDoorSwapPTg
import Derived.Deep.CutBlock
import Derived.Test.YtfpjdpdmgceciaaGreatDoorCoreTg
import Derived.Test.YtfpjdpdmgceciaaGreatDoorRefSwTTg
namespace Go.Proofs.YtfpjdpdmgceciaaGreatDoor
set_option linter.all false
open Go.RowKit
theorem zYi{l:List Prt}{us:List Nat}(h:zC l=some us){i:Nat}(hi:i<l.length):0<=(l[i]).2.1/\(l[i]).2.1<=(l.length:Int):=by
 obtain⟨vs,hv⟩:=kD h i;rw[List.drop_eq_getElem_cons hi]at hv;obtain⟨ts,h1,h2,h3,_⟩:=jA hv;have:=(yL h1).2.1;rw[List.length_drop]at this;exact⟨h2,Z⟩
@[irreducible] def swapPost(q:List Prt×Int)(w0:World)(e:Ending)(w':World):Prop :=
 ∃v,e=.returned (.tuple #[v,.int .i64 q.2])/\Below w0.heap.size w0 w'/\w'.ownsRow w0.heap.size 33 3 v q.1.length (zP q.1)
set_option maxRecDepth 100000
set_option maxHeartbeats 32000000
def rsRel(l:List Prt)(stop M:Nat)(R:Option Nat)(w2:World)(t c:Value)(wr:World):Prop :=
 ∃k q:Nat,c=.int .i64 (k:Int)/\t=.int .i64 (q:Int)/\k<=M/\k<=q/\q<=l.length/\toZ l stop (M-k) q=R/\wr=w2
noncomputable def rsLoop:Code:=sndN 1 (fstC (sndN 7 (Tryz.f9.body.getD .skip)))
noncomputable def rsBack:Code:=sndN 8 (Tryz.f9.body.getD .skip)
theorem zTk(u4 u5 u6 u7 u8 u9 u14 u15 u16 u17 u18 u19 u20 u21 u22 u23 u24 u25 u26 u27 u28 u29 u30 u31 u32 u33 u34 u35 u36 u37 u38 u39 u40 u41 u42 u43 u44 u45 u46 u47 u48 u49 u50 u51 u52 u53 u54 u55 u56 u57 u58 u59 u60 u61 u62 u63 u64 u65 u66 u67 u68 u69 u70 u71 u72 u73 u74 u75 u76 u77 u78 u79 u80 u81 u82 u83 u84 u85 u86 u87 u88 u89 u90 u91 u92 u93 u94 u95 u96:Value)(l:List Prt)(hl:l.length<=10000000)(hl0:0<l.length)(b:List Prt)(hbl:b.length<=10000000)(hw:Hid (zT l=true))(I m ks U stop:Nat)(hIl:I<l.length)(hks:ks<=10000000)(hstop:Hid (zB l U=stop))(hsl:stop<=l.length)(hUI:U<I)(lb loff vcap:Nat)(hvc:l.length<=vcap)(ba:Option Addr)(bcap:Nat)(hbc:b.length<=bcap)(w:World)(HR:Hid (zG w (.slice (some ⟨lb,loff,none⟩) l.length vcap) l))(HRB:Hid (zG w (.slice ba b.length bcap) b))(Q:Ending->World->Prop)(R:Option Nat)(HRR:Hid (toZ l stop m I=R))(HNone:Hid (R=none->Q (.returned (.tuple #[.slice none 0 0,.int .i64 1])) w))(HSome:Hid (∀tq,R=some tq->I<=tq/\tq<=l.length/\m<=l.length/\∀v' w',Below w.heap.size w w'->w'.ownsRow w.heap.size 33 3 v' (addK (l.take I) U ((ks:Int)-m)++(b++l.drop tq)).length (zP (addK (l.take I) U ((ks:Int)-m)++(b++l.drop tq)))->Q (.returned (.tuple #[v',.int .i64 0])) w'))(K:Act->World->Prop)(hK:∀a' w',Code.wp Tryz.prog rsBack (bodyPost Tryz.prog Tryz.f9 Q) a' w'->K a' w') :
  Code.wp Tryz.prog rsLoop (Exit.then K (bodyPost Tryz.prog Tryz.f9 Q)) ⟨#[.slice (some ⟨lb,loff,none⟩) l.length vcap,.int .i64 (I:Int),.int .i64 (m:Int),.slice ba b.length bcap,u4,u5,u6,u7,u8,u9,.int .i64 (ks:Int),.int .i64 (U:Int),.int .i64 (I:Int),.int .i64 0,u14,u15,u16,u17,u18,u19,u20,u21,u22,u23,u24,u25,u26,u27,u28,u29,u30,u31,u32,u33,u34,u35,u36,u37,u38,u39,u40,u41,u42,u43,u44,u45,u46,u47,u48,u49,u50,u51,u52,u53,u54,u55,u56,u57,u58,u59,u60,u61,u62,u63,u64,u65,u66,u67,u68,u69,u70,u71,u72,u73,u74,u75,u76,u77,u78,u79,u80,u81,u82,u83,u84,u85,u86,u87,u88,u89,u90,u91,u92,u93,u94,u95,u96],[]⟩ w:=by
 unfold rsLoop;unfold rsBack at hK
 conv=>arg 2;whnf
 conv at hK=>enter [a',w',1];arg 2;whnf
 have hUl:U<l.length:=Z;have CE:∀i,i<l.length->Calls Tryz.prog 20 #[.slice (some ⟨lb,loff,none⟩) l.length vcap,.int .i64 (i:Int)] w λe w'=>e=.returned (.int .i64 (zB l i:Int))/\w=w':=λi hi=>by
  have:=fV l Z _ i Z w HR.out;rw[zEm (zZ hw.out) hi]at this;exact this
 have CU:=CE U hUl;rw[hstop.out]at CU;have CU:=Hd CU;have CE:=Hd CE;go_wp2_with fail;go_loopw [12,13] (λt c wr=>rsRel l stop m R w t c wr) (λ_ c _=>m-(intOf c).toNat)
 case atStart=>exact⟨0,I,rfl,rfl,Nat.zero_le _,Nat.zero_le _,Z,by rw[Nat.sub_zero];exact HRR.out,rfl⟩
 case round =>
  obtain⟨k,q,rfl,rfl,hk,hkq,hq,hT,rfl⟩:=hrel;have HT:=Hd hT;clear hT;by_cases hkM:k<m
  .have hkM':(k:Int)<m:=Z;have hstep:=HT.out;rw[show m-k=(m-(k+1))+1 by omega,toZ]at hstep;by_cases hst:stop<=q
   .rw[iP hst]at hstep;have hst':(stop:Int)<=q:=Z;have HF:=Hd (HNone.out hstep.symm);clear hstep;go_wp2_with fail;refine CU.out.mono ?_;rintro e w1 ⟨rfl,rfl⟩;go_wp2_with fail;exact HF.out
   .rw[iN hst]at hstep;have hst':¬(stop:Int)<=q:=Z;have hql:q<l.length:=Z;have hg:=(zS (zZ hw.out) hql);have CQ:=Hd (CE.out q hql);have hwk:IntKind.i64.wrap ((k:Int)+1)=(k:Int)+1:=wI Z;have HRL:Hid (rsRel l stop m R wr (.int .i64 (zB l q:Int)) (.int .i64 ((k+1:Nat):Int)) wr):=Hd ⟨k+1,zB l q,rfl,rfl,hkM,Z,hg.2,hstep,rfl⟩;have HML:Hid (m-(k+1)<m-k):=Hd Z;clear hstep hg;generalize zB l q=et at *;go_wp2_with fail;refine CU.out.mono ?_;rintro e w1 ⟨rfl,rfl⟩;go_wp2_with fail;refine CQ.out.mono ?_;rintro e w1 ⟨rfl,rfl⟩;go_wp2_with fail;refine⟨?_,(by have:=HML.out;simp[intOf];try omega)⟩;first
     |exact HRL.out
     | (repeat apply Exists.intro
        refine⟨?_,rfl⟩;exact HRL.out)
  .have hkM':¬(k:Int)<m:=Z;have hfin:=HT.out;rw[show m-k=0 by omega,toZ]at hfin;obtain⟨g1,g2,g3,g4⟩:=HSome.out q hfin.symm;have HIT:=Hd (And.intro g1 (And.intro g2 g3));have HQ:=Hd g4;have HKB:Hid (∀h:U<l.length,0<=(l[U]).2.1/\(l[U]).2.1<=10000000):=Hd λh=>by
    have:=zYi (zZ hw.out) h;omega
   clear hfin g1 g2 g3 g4 hkM hk;go_upto_region 16 with(fail);rename_i hK';exact zTj _ _ _ _ _ _ _ _ _ _ _ _ _ _ _ _ _ _ _ _ _ _ _ _ _ _ _ _ _ _ _ _ _ _ _ _ _ _ _ _ _ _ _ _ _ _ _ _ _ _ _ _ _ _ _ _ _ _ _ _ _ _ _ _ _ _ _ _ _ _ _ _ _ _ _ _ _ _ _ _ _ _ _ _ _ _ _ _ _ _ l hl hl0 b hbl I q m ks U HIT.out hks hUI HKB.out lb loff vcap hvc ba bcap hbc wr HR HRB Q HQ _ hK'
theorem zTl(l:List Prt)(hl:l.length<=10000000)(v:Value)(i n:Int)(b:List Prt)(hbl:b.length<=10000000)(vb:Value)(w:World)(hr:zG w v l)(hrb:zG w vb b) :
  Calls Tryz.prog 9 #[v,.int .i64 i,.int .i64 n,vb] w (swapPost (swapZ l i n b) w):=by
 have HQ:Hid (∀v' m x w',swapZ l i n b=(m,x)->Below w.heap.size w w'->w'.ownsRow w.heap.size 33 3 v' m.length (zP m)->swapPost (swapZ l i n b) w (.returned (.tuple #[v',.int .i64 x])) w'):=Hd λv' m x w' h h2 h3=>by
  unfold swapPost;rw[h];exact⟨v',rfl,h2,h3⟩
 have HV:Hid (swapZ l i n b=_):=Hd (by unfold swapZ;rfl);generalize swapPost (swapZ l i n b) w=Q at *;have HR:=Hd hr;have HRB:=Hd hrb;have C1:=Hd (zQm b Z vb w hrb);have C2:=Hd (zIy l Z v w hr);obtain⟨va,vcap,rfl,hvc⟩:=hr.slice;obtain⟨ba,bcap,rfl,hbc⟩:=hrb.slice;clear hr hrb;have HNone:Hid (∀x,swapZ l i n b=([],x)->Q (.returned (.tuple #[.slice none 0 0,.int .i64 x])) w):=Hd λx hx=>HQ.out _ [] x _ hx (bR _ _) (World.ownsRow_nil _ _ _ _)
 go_enter Tryz.func9,Tryz.ntmps9;go_wp2_with fail;refine C1.out.mono ?_;rintro e w1 ⟨rfl,rfl⟩;have hT:zAv b=(match zC b with|some ts=>(ts.length:Int)|none=>-1):=rfl;have HT:=Hd hT;clear hT;generalize zAv b=T at *;go_wp2_with fail;refine C2.out.mono ?_;rintro e w1 ⟨rfl,rfl⟩;cases hw:zT l with
 |false =>
  have HF:=Hd (show swapZ l i n b=([],8)by rw[HV.out,iN (by simp[hw])]);clear HV hw;go_wp2_with fail;exact HNone.out _ HF.out
 |true =>
  have hv:=HV.out;rw[iP hw]at hv;have HW:=Hd hw;clear HV;cases hrow:zC b with
  |none =>
   have ht:=HT.out;rw[hrow]at hv ht;simp only[]at ht;subst ht;have HF:=Hd hv;clear hrow hv hw;go_wp2_with fail;exact HNone.out _ HF.out
  |some ks =>
   have ht:=HT.out;rw[hrow]at hv ht;simp only[]at ht hv;subst ht;have HRW:=Hd hrow;have hksl:=(yL hrow).2.1;have hk0:¬(ks.length:Int)<0:=Z;clear hrow;by_cases hc:0<=i/\i<l.length/\0<=n/\(i=0->n=1/\ks.length=1)
   .rw[iP hc]at hv;obtain⟨c1',c2',c3',c4'⟩:=hc;obtain⟨I,rfl⟩:∃I:Nat,i=I:=⟨i.toNat,Z⟩;obtain⟨m,rfl⟩:∃m:Nat,n=m:=⟨n.toNat,Z⟩;have hIl:I<l.length:=Z;have hl0:0<l.length:=Z;have hi0:¬(I:Int)<0:=Z;have hil:¬(l.length:Int)<=I:=Z;have hn0:¬(m:Int)<0:=Z;rw[Int.toNat_natCast,Int.toNat_natCast]at hv;by_cases hI:I=0
    .rw[iP Z]at hv;have HF:=Hd hv;obtain⟨hm1,hk1⟩:=c4' Z;have hmb:((m:Int)==1)=true:=by rw[beq_iff_eq];omega
     have hmc:((m:Int) != 1)=false:=by rw[bne_eq_false_iff_eq];omega
     have hk1b:((ks.length:Int)==1)=true:=by rw[beq_iff_eq];omega
     have hk1c:((ks.length:Int) != 1)=false:=by rw[bne_eq_false_iff_eq];omega
     have hIb:((I:Int)==0)=true:=by rw[beq_iff_eq];omega
     have hI0:¬(0:Int)<(I:Int):=Z;have hA:Below w.heap.size w (w.alloc (.cells #[] 33)):=(bR _ _).alloc (nR _) _;obtain⟨v1,w1,hrun1,ho1,hg1,_⟩:=kG (P:=Tryz.prog) (w.alloc (.cells #[] 33)) 22 22 33 Tryz.underlying22 w.heap.size kZ rfl V _ 0 [] (zAd w w.heap.size 33 3 (nR _)) _ b.length (zP b) (HRB.out.below hA) (gX _) Z Z Ob;rw[Nat.zero_add,List.nil_append]at ho1;have HG:=Hd (HQ.out v1 _ _ w1 HF.out (xZ hA Ob (zAd w w.heap.size 33 3 (nR _)) hg1) ho1);clear hA ho1 hg1 hI c4' hm1 hk1 hw hv;go_upto_region 7 with(fail);go_wp2_with (at_builtin;refine zE rfl _ _ _ _ hrun1 rfl rfl rfl rfl ?_);exact HG.out
    .rw[iN Z]at hv;have hup:=zOa hw hIl I Z;have huplt:=yDw l I I;have CA:=zRe l Z [l.length] (zZ hw) (.slice va l.length vcap) I hIl w HR.out;obtain⟨U,hU⟩:∃U:Nat,upI l I I=U:=⟨(upI l I I).toNat,Z⟩;rw[hU]at CA huplt hv;rw[Int.toNat_natCast]at hv;have hUI:U<I:=Z;have hst:=(zS (zZ hw) (show U<l.length by omega)).2;have hto:=λe h=>yDv (zZ hw) hst m I e Z h
     generalize hse:zB l U=stop at *;have HSE:=Hd hse;generalize hre:toZ l stop m I=R at *;have HRE:=Hd hre;have HN1:Hid (R=none->Q (.returned (.tuple #[.slice none 0 0,.int .i64 1])) w):=Hd λh=>HNone.out _ (by rw[hv,h])
     have HS1:Hid (∀tq,R=some tq->I<=tq/\tq<=l.length/\m<=l.length/\∀v' w',Below w.heap.size w w'->w'.ownsRow w.heap.size 33 3 v' (addK (l.take I) U ((ks.length:Int)-m)++(b++l.drop tq)).length (zP (addK (l.take I) U ((ks.length:Int)-m)++(b++l.drop tq)))->Q (.returned (.tuple #[v',.int .i64 0])) w'):=Hd λtq h=>by
      have:=hto tq h;exact⟨Z,Z,Z,λv' w' gb go=>HQ.out v' _ _ w' (by rw[hv,h]) gb go⟩
     have HKS:Hid (ks.length<=10000000):=Hd Z;have CA:=Hd CA;clear hU hup huplt hv hto hse hre c4' hw;have hIb:((I:Int)==0)=false:=by rw[bE];omega
     obtain⟨lb,loff,rfl,_,_,_,_⟩:=HR.out.at (bR _ _) hl0;clear hI;go_wp2_with fail;refine CA.out.mono ?_;rintro e w1 ⟨rfl,rfl⟩;go_upto_block 0 with(fail);rename_i hK';exact zTk _ _ _ _ _ _ _ _ _ _ _ _ _ _ _ _ _ _ _ _ _ _ _ _ _ _ _ _ _ _ _ _ _ _ _ _ _ _ _ _ _ _ _ _ _ _ _ _ _ _ _ _ _ _ _ _ _ _ _ _ _ _ _ _ _ _ _ _ _ _ _ _ _ _ _ _ _ _ _ _ _ _ _ _ _ _ _ _ _ l hl hl0 b hbl HW I m ks.length U stop hIl HKS.out HSE hst hUI lb loff vcap hvc ba bcap hbc w HR HRB Q R HRE HN1 HS1 _ hK'
   .rw[iN hc]at hv;have HF:=Hd hv;clear hv hw;by_cases h1:i<0
    .clear hc;go_wp2_with fail;exact HNone.out _ HF.out
    .by_cases h2:(l.length:Int)<=i
     .clear hc;go_wp2_with fail;exact HNone.out _ HF.out
     .by_cases h3:n<0
      .clear hc;go_wp2_with fail;exact HNone.out _ HF.out
      .have hi0:i=0:=by
        rcases Classical.em (i=0)with h|h
        .exact h
        .exact absurd ⟨Z,Z,Z,λg=>absurd g h⟩ hc
       subst hi0;by_cases hn:n=1
       .have hk:ks.length≠1:=λh=>hc ⟨Z,Z,Z,λ_=>⟨hn,h⟩⟩
        subst hn;have hkb:((ks.length:Int)==1)=false:=by rw[bE];omega
        have hkn:((ks.length:Int) != 1)=true:=by rw[bne_iff_ne];omega
        clear hc hk;go_wp2_with fail;all_goals
         show Q (.returned (.tuple #[.slice none 0 0,.int .i64 1])) w;exact HNone.out _ HF.out
       .have hnb:(n==1)=false:=by rw[bE];exact hn
        have hnn:(n != 1)=true:=by rw[bne_iff_ne];exact hn
        clear hc hn;go_wp2_with fail;all_goals
         show Q (.returned (.tuple #[.slice none 0 0,.int .i64 1])) w;exact HNone.out _ HF.out
end Go.Proofs.YtfpjdpdmgceciaaGreatDoor
