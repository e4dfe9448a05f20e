/- The program's functions of layer 2, walked. -/
import Derived.Test.YtfpjdpdmgceciaaGreatDoorPureTg
import Derived.Test.YtfpjdpdmgceciaaGreatDoorU8bTg
import Derived.Test.YtfpjdpdmgceciaaGreatDoorRunesTg
import Derived.Test.YtfpjdpdmgceciaaGreatDoorRefBaseTg
namespace Go.Proofs.YtfpjdpdmgceciaaGreatDoor
set_option maxRecDepth 100000
set_option maxHeartbeats 32000000
open Go.RowKit
def zW(k:IntKind):Array Value:=(zF.flatMap λp=>[Value.int k p.1,Value.int k p.2]).toArray
def zeros(n:Nat):Array Value:=(List.replicate n (Value.int .i32 0)).toArray
theorem zero61(w:World):(zeroValue 174).run Tryz.prog w=.ok (.agg (zeros 66)) w:=Oa
theorem zJx(w:World) :
  Calls Tryz.prog 161 #[] w λe w'=>e=.returned (.agg (zW .i32))/\Below w.heap.size w w':=by
 have hz:=zero61;go_enter Tryz.func161,Tryz.ntmps161;go_upto_region 1 with(fail);refine wp_region_lit ?_;refine zNd 34 Oa Oa ?_;refine wpList_store_row rfl 174 (.tmp 0) (.tmp 34) rfl w.heap.size (zW .i32) Oa Oa 174 (zeros 66) (heap_alloc_new _ _) Oa Oa Oa ?_;refine wpList_nil ?_;generalize hA:(actAfter _ _ _).put _ undef=A;have hA0:A.tmps.getD 0 undef=.pointer (some ⟨w.heap.size,0,none⟩):=by rw[<-hA];kernel_rfl
 have hAd:A.defers=[]:=by rw[<-hA];kernel_rfl
 clear hA hz;obtain⟨tm,df⟩:=A;simp only[]at hA0 hAd;subst hAd;rename_i hK;refine hK _ _ (wp_ret ?_);refine bodyPost_ret (results_cell_row rfl tm _ w.heap.size 174 (zW .i32) (0,0) _ hA0 ?_ Tryz.underlying174 rfl Oa) rfl ?_
 .rw[World.setRow_alloc_new];exact heap_alloc_new _ _
 .exact⟨rfl,by rw[World.setRow_alloc_new];exact(bR _ _).alloc (nR _) _⟩
theorem zHi:∀i,i<33->(zW .i32)[2*i]?=some (.int .i32 (frm zF i))/\(zW .i32)[2*i+1]?=some (.int .i32 (too zF i)):=by
 intro i hi;have h:∀i:Fin 33,(zF.flatMap λp=>[(p.1:Int),(p.2:Int)])[2*i.val]?=some ((frm zF i.val:Nat):Int)/\(zF.flatMap λp=>[(p.1:Int),(p.2:Int)])[2*i.val+1]?=some ((too zF i.val:Nat):Int):=by decide +kernel
 have e:zW .i32=((zF.flatMap λp=>[(p.1:Int),(p.2:Int)]).map (Value.int .i32)).toArray:=by
  unfold zW;rw[List.map_flatMap];rfl
 have:=h ⟨i,hi⟩;rw[e];simp only[List.getElem?_toArray,List.getElem?_map];rw[this.1,this.2];exact⟨rfl,rfl⟩
theorem zAf(r:Int)(w:World) :
  Calls Tryz.prog 125 #[.int .i32 r] w λe w'=>e=.returned (.bool (letter r))/\Below w.heap.size w w':=by
 have hz:=zero61;go_enter Tryz.func125,Tryz.ntmps125;go_wp2_with fail;refine(zJx _).mono ?_;rintro e w1 ⟨rfl,hb1⟩;go_wp2_with (refine wpList_store_row rfl 174 (.tmp 3) (.tmp 7) rfl w1.heap.size (zW .i32) rfl rfl 174 (zeros 66) (heap_alloc_new _ _) Oa Oa Oa ?_;rw[World.setRow_alloc_new]);have hcell:∀j,(w1.alloc (.cells (zW .i32) 174)).cell? ⟨w1.heap.size,j,none⟩=(zW .i32)[j]?:=λj=>World.cell?_alloc_at _ _ _ _ rfl
 have hbW:Below w.heap.size w (w1.alloc (.cells (zW .i32) 174)):=hb1.alloc hb1.size _;generalize w1.alloc (.cells (zW .i32) 174)=W at *;generalize w1.heap.size=B at *;have HC:=Hd hcell;have HB:=Hd hbW;clear hcell hbW hb1 hz;generalize zW .i32=LC
 go_loop [4,5] (λa b=>∃lo hi:Nat,a=.int .i64 lo/\b=.int .i64 hi/\lo<=hi/\hi<=33/\(∀i,i<lo->(too zF i:Int)<r)/\(∀i,hi<=i->i<33->r<(frm zF i:Int))) (λa b=>(intOf b-intOf a).toNat)
 case atStart=>exact⟨0,33,rfl,rfl,Z,Z,λi h=>Z,λi h1 h2=>Z⟩
 case round =>
  obtain⟨lo,hi,rfl,rfl,hle,h33,hlo,hhi⟩:=hrel;have HLO:=Hd hlo;have HHI:=Hd hhi;clear hlo hhi;by_cases hlt:lo<hi
  .have hmid:(lo+hi) / 2<33:=Z;have hm:=zHi _ hmid;have hs1:=zHl;have hsm:=zJy _ hmid;have hc0:W.cell? ⟨B,(lo+hi) / 2*2,none⟩=some (.int .i32 (frm zF ((lo+hi) / 2))):=by rw[HC.out,Nat.mul_comm];exact hm.1
   have hc1:W.cell? ⟨B,(lo+hi) / 2*2+1,none⟩=some (.int .i32 (too zF ((lo+hi) / 2))):=by rw[HC.out,Nat.mul_comm];exact hm.2
   have HS:=Hd hs1;clear hm hs1;have hml:lo<=(lo+hi) / 2:=Z;have hmh:(lo+hi) / 2<hi:=Z;generalize hf:frm zF ((lo+hi) / 2)=f at *;generalize ht:too zF ((lo+hi) / 2)=t at *;have HF:=Hd hf;have HT:=Hd ht;clear hf ht;go_wp2_with fail
   .have hrf:r<(f:Int):=by assumption
    go_round
    case rel=>exact⟨lo,(lo+hi) / 2,rfl,by go_num,hml,Z,HLO.out,λi h1 h2=>by have:=(HS.out _ hmid i h2 h1).1;have:=HF.out;omega⟩
    case measure=>simp[intOf];omega
   .have hrt:(t:Int)<r:=by assumption
    go_round
    case rel=>exact⟨(lo+hi) / 2+1,hi,by go_num,rfl,Z,h33,λi h1=>by have:=(HS.out i Z _ hmid Z).2;have:=HT.out;omega,HHI.out⟩
    case measure=>simp[intOf];omega
   .go_ret;have h1:(f:Int)<=r:=Z;have h2:r<=(t:Int):=Z;exact⟨zX (by unfold letter;exact(zZe zF r _ hmid (by rw[HF.out];exact h1) (by rw[HT.out];exact h2)).symm),HB.out⟩
  .go_wp2_with fail;go_ret;have hno:inR zF r=false:=zOn zF r λi hi'=>by
    by_cases h:i<lo
    .exact Or.inr (HLO.out i h)
    .exact Or.inl (HHI.out i Z hi')
   exact⟨zX (by unfold letter;exact hno.symm),HB.out⟩
theorem zFq(r:Int)(hr:-2147483648<=r/\r<=2147483647)(w:World) :
  Calls Tryz.prog 126 #[.int .i32 r] w λe w'=>e=.returned (.bool (digit r))/\w=w':=by
 have i0:∀w,(Instr.index 176 (.agg #[.int .i32 48,.int .i32 1632,.int .i32 2406,.int .i32 3664,.int .i32 65296]) (.int .i64 0)).run Tryz.prog w=.ok (.int .i32 48) w:=λ_=>by kernel_rfl
 have i1:∀w,(Instr.index 176 (.agg #[.int .i32 48,.int .i32 1632,.int .i32 2406,.int .i32 3664,.int .i32 65296]) (.int .i64 1)).run Tryz.prog w=.ok (.int .i32 1632) w:=λ_=>by kernel_rfl
 have i2:∀w,(Instr.index 176 (.agg #[.int .i32 48,.int .i32 1632,.int .i32 2406,.int .i32 3664,.int .i32 65296]) (.int .i64 2)).run Tryz.prog w=.ok (.int .i32 2406) w:=λ_=>by kernel_rfl
 have i3:∀w,(Instr.index 176 (.agg #[.int .i32 48,.int .i32 1632,.int .i32 2406,.int .i32 3664,.int .i32 65296]) (.int .i64 3)).run Tryz.prog w=.ok (.int .i32 3664) w:=λ_=>by kernel_rfl
 have i4:∀w,(Instr.index 176 (.agg #[.int .i32 48,.int .i32 1632,.int .i32 2406,.int .i32 3664,.int .i32 65296]) (.int .i64 4)).run Tryz.prog w=.ok (.int .i32 65296) w:=λ_=>by kernel_rfl
 go_enter Tryz.func126,Tryz.ntmps126;go_wp2_with fail
 go_rounds 7
 all_goals go_ret
 all_goals(refine⟨zX ?_,rfl⟩;clear i0 i1 i2 i3 i4;rw[Bool.eq_iff_iff];unfold digit inR xP;simp;omega)
theorem zOm(r:Int)(w:World) :
  Calls Tryz.prog 211 #[.int .i32 r] w λe w'=>e=.returned (.bool (blank r))/\w=w':=by
 go_enter Tryz.func211,Tryz.ntmps211;go_wp2_with fail;all_goals go_ret
 all_goals(refine⟨zX ?_,rfl⟩;rw[Bool.eq_iff_iff];unfold blank;simp;try omega)
theorem zHj(r:Int)(hr:-2147483648<=r/\r<=2147483647)(w:World) :
  Calls Tryz.prog 252 #[.int .i32 r] w λe w'=>e=.returned (.int .i64 (base r))/\w=w':=by
 go_enter Tryz.func252,Tryz.ntmps252;go_wp2_with fail;all_goals go_ret
 all_goals(refine⟨zAg ?_,rfl⟩)
 all_goals(clear hr;unfold base;repeat(first|rw[iP Z]|rw[iN Z]|rfl))
theorem zHk(s:ByteArray)(w:World) :
  Calls Tryz.prog 123 #[.string s] w λe w'=>e=.returned (.bool (word s))/\w=w':=by
 go_enter Tryz.func123,Tryz.ntmps123;go_wp2_with fail;all_goals go_ret
 all_goals(refine⟨zX ?_,rfl⟩)
 all_goals first|(unfold word words;simp only[List.any_cons,List.any_nil, *,Bool.true_or,Bool.or_true,Bool.or_false];done)|(exfalso;simp_all;done)
def nats(l:List Nat):List Int:=l.map λ(n:Nat)=>(n:Int)
theorem zLw(s:ByteArray):s.toList.isEmpty=decide (s.size=0):=by
 rw[ByteArray.toList_eq,Bool.eq_iff_iff,List.isEmpty_iff_length_eq_zero,<-size_data];simp
theorem zRw(s:ByteArray)(w:World)(hT:Tabs w) :
  Calls Tryz.prog 77 #[.string s] w λe w'=>e=.returned (.bool (name s))/\Below w.heap.size w w':=by
 have CW:=Hd (λw=>zHk s w);have CB:=Hd (λw hT=>zLp s w hT);have HN:=Hd (show name s=(!s.toList.isEmpty&&!word s&&decide (bad s<0)&&chk true (nats (chars s)))by unfold name nats;rfl);cases he:s.toList.isEmpty
 .have he2:(s.toList==[])=false:=by
   rw[bE];intro e;rw[e]at he;cases he
  cases hw:word s
  .rw[hw]at CW;by_cases hb:bad s<0
   .have hb2:decide (0<=bad s)=false:=by simpa using hb
    have HB:=Hd ((zHf s).1 hb);have HN2:Hid (name s=chk true (nats (scan s 0).1)):=by
     have:=HN.out;rw[he,hw,decide_eq_true hb]at this;rw[this];unfold chars;rfl
    clear HN hw hb;go_enter Tryz.func77,Tryz.ntmps77;go_wp2_with fail;refine(CW.out _).mono ?_;rintro e w1 ⟨rfl,rfl⟩;go_wp2_with fail;refine(CB.out _ hT).mono ?_;rintro e w1 ⟨rfl,hb1⟩;go_wp2_with fail;have hz1:=hb1.size;go_loopw [] (λwr=>∃pos,wr.heap[w1.heap.size]?=some (.stringIter s pos)/\pos<=s.size/\(scan s pos).2=none/\name s=chk (pos==0) (nats (scan s pos).1)/\Below w.heap.size w wr) (λwr=>iterLeft w1.heap.size wr)
    case atStart=>exact⟨0,World.iter_heap _ _ _,Nat.zero_le _,HB.out,HN2.out,hb1.alloc hb1.size _⟩
    case round =>
     obtain⟨pos,hk,hpos,hnn,hnm,hb⟩:=hrel;have HK:=Hd hk;have HNM:=Hd hnm;have HNN:=Hd hnn;have hz:=yH hk;clear hnm;by_cases hp:pos<s.size
     .have hn:=λty=>Lib.run_next_any_at (P:=Tryz.prog) wr w1.heap.size s pos ty hk hp
      have hb2':Below w.heap.size w (wr.iterAt w1.heap.size s (pos+(Utf8.decode s pos).2)):=Lib.below_iterAt hb Z _ _;have hk2:=Lib.iterAt_heap wr w1.heap.size s pos (pos+(Utf8.decode s pos).2) hk;generalize hW:wr.iterAt w1.heap.size s (pos+(Utf8.decode s pos).2)=W at *;rcases vP s pos hp with⟨h1,h2⟩|⟨h1,h2,h3,h4,h5,h6⟩
      .exact absurd h1 (zQs hp hnn)
      .have HR:=Hd (vU hp Z);have hrl:=zRh s pos;rw[h6]at hn hk2;generalize rd s pos=d at *;obtain⟨d1,d2⟩:=d;simp only[]at *;have hp2:=Hd h3;have CL:=Hd (λw=>zAf d1 w);have CD:=Hd (λw=>zFq d1 Z w);have hnx:name s=((letter d1 || (!(pos==0)&&digit d1))&&chk false (nats (scan s (pos+d2)).1)):=by
        rw[HNM.out,HR.out];rfl
       have HNX:=Hd hnx;have hq:((pos:Int)==0)=(pos==0):=by rw[Bool.eq_iff_iff];simp
       have hp0:(pos+d2==0)=false:=by simp;omega
       have HP0:=Hd hp0;clear hW h4 h5 h6 h3 hk hnn hnx hp0;cases hl:letter d1
       .rw[hl]at CL HNX;cases h0:(pos==0)
        .rw[h0]at hq HNX;cases hd:digit d1
         .rw[hd]at CD HNX;clear hl hd h0;go_wp2_with fail;refine(CL.out _).mono ?_;rintro e w3 ⟨rfl,hb3⟩;go_wp2_with fail;refine(CD.out _).mono ?_;rintro e w4 ⟨rfl,rfl⟩;go_wp2_with fail;go_ret;exact⟨zX (by rw[HNX.out];rfl),zD hb2' hb3⟩
         .rw[hd]at CD HNX;clear hl hd h0;go_wp2_with fail;refine(CL.out _).mono ?_;rintro e w3 ⟨rfl,hb3⟩;have hk3:=keeps hb3 hk2;go_wp2_with fail;refine(CD.out _).mono ?_;rintro e w4 ⟨rfl,rfl⟩;go_wp2_with fail;go_roundw
          case rel=>exact⟨pos+d2,hk3,hp2.out,by rw[<-HNN.out,HR.out],by rw[HNX.out,HP0.out];rfl,zD hb2' hb3⟩
          case measure=>rw[yD hk3,yD HK.out];have:=hp2.out;omega
        .rw[h0]at hq HNX;clear hl h0;go_wp2_with fail;refine(CL.out _).mono ?_;rintro e w3 ⟨rfl,hb3⟩;go_wp2_with fail;go_ret;exact⟨zX (by rw[HNX.out];rfl),zD hb2' hb3⟩
       .rw[hl]at CL HNX;clear hl hq;go_wp2_with fail;refine(CL.out _).mono ?_;rintro e w3 ⟨rfl,hb3⟩;have hk3:=keeps hb3 hk2;go_wp2_with fail;go_roundw
        case rel=>exact⟨pos+d2,hk3,hp2.out,by rw[<-HNN.out,HR.out],by rw[HNX.out,HP0.out];simp,zD hb2' hb3⟩
        case measure=>rw[yD hk3,yD HK.out];have:=hp2.out;omega
     .have hn:=λty=>Lib.run_next_end_at (P:=Tryz.prog) wr w1.heap.size s pos ty hk hp
      have HE:=Hd (show name s=true by rw[HNM.out,gY Z];rfl);clear hk hnn;go_wp2_with fail;go_ret;exact⟨zX HE.out.symm,hb⟩
   .have hb2:decide (0<=bad s)=true:=by simpa using hb
    have HN2:Hid (name s=false):=by
     have:=HN.out;rw[he,hw,decide_eq_false hb]at this;rw[this];rfl
    clear HN hw hb;go_enter Tryz.func77,Tryz.ntmps77;go_wp2_with fail;refine(CW.out _).mono ?_;rintro e w1 ⟨rfl,rfl⟩;go_wp2_with fail;refine(CB.out _ hT).mono ?_;rintro e w1 ⟨rfl,hb1⟩;go_wp2_with fail;go_ret;exact⟨zX HN2.out.symm,hb1⟩
  .rw[hw]at CW;have HN2:Hid (name s=false):=by
    have:=HN.out;rw[he,hw]at this;rw[this];rfl
   clear HN hw;go_enter Tryz.func77,Tryz.ntmps77;go_wp2_with fail;refine(CW.out _).mono ?_;rintro e w1 ⟨rfl,rfl⟩;go_wp2_with fail;go_ret;exact⟨zX HN2.out.symm,bR _ _⟩
 .have he2:(s.toList==[])=true:=by
   rw[List.isEmpty_iff.1 he];rfl
  have HN2:Hid (name s=false):=by
   have:=HN.out;rw[he]at this;rw[this];rfl
  clear HN;go_enter Tryz.func77,Tryz.ntmps77;go_wp2_with fail;go_ret;exact⟨zX HN2.out.symm,bR _ _⟩
def digitCells(k:IntKind):Array Value:=(xP.flatMap λp=>[Value.int k p.1,Value.int k p.2]).toArray
def wordVals:Array Value:=(words.map λl=>Value.string ⟨l.toArray⟩).toArray
theorem zVd(w:World)(C:Array Value)(t:TypeId)(n sz:Nat)(h:C.size=n*sz):Row (w.alloc (.cells C t)) (.slice (some ⟨w.heap.size,0,none⟩) n n) n sz C.toList :=
 ⟨by simpa using h,some ⟨w.heap.size,0,none⟩,n,rfl,nR _,Ob,λ_=>⟨w.heap.size,0,rfl,Ob,λi _=>by rw[Nat.zero_add,World.cell?_alloc_at _ _ _ _ rfl];simp⟩⟩
theorem zQi(w:World) :
  Calls Tryz.prog 115 #[] w λe w'=>e=.returned (.slice (some ⟨w.heap.size,0,none⟩) 33 33)/\w'=w.alloc (.cells (zW .i64) 169):=by
 go_enter Tryz.func115,Tryz.ntmps115;go_upto_region 1 with(fail);refine wp_region_lit ?_;refine jW 35 (w.alloc (.cells (zW .i64) 169)) Oa Oa ?_;refine wpList_nil ?_;generalize hA:actOf _ _ _ _=A;have hA0:A.tmps.getD 0 undef=.slice (some ⟨w.heap.size,0,none⟩) 33 33:=by rw[<-hA];kernel_rfl
 have hAd:A.defers=[]:=by rw[<-hA];kernel_rfl
 clear hA;obtain⟨tm,df⟩:=A;simp only[]at hA0 hAd;subst hAd;rename_i hK;refine hK _ _ (wp_ret ?_);refine bodyPost_ret (results_tmp rfl _ _ _) rfl ?_;exact⟨by rw[hA0],rfl⟩
theorem zTc(w:World) :
  Calls Tryz.prog 116 #[] w λe w'=>e=.returned (.slice (some ⟨w.heap.size,0,none⟩) 5 5)/\w'=w.alloc (.cells (digitCells .i64) 169):=by
 go_enter Tryz.func116,Tryz.ntmps116;go_upto_region 1 with(fail);refine wp_region_lit ?_;refine jW 7 (w.alloc (.cells (digitCells .i64) 169)) Oa Oa ?_;refine wpList_nil ?_;generalize hA:actOf _ _ _ _=A;have hA0:A.tmps.getD 0 undef=.slice (some ⟨w.heap.size,0,none⟩) 5 5:=by rw[<-hA];kernel_rfl
 have hAd:A.defers=[]:=by rw[<-hA];kernel_rfl
 clear hA;obtain⟨tm,df⟩:=A;simp only[]at hA0 hAd;subst hAd;rename_i hK;refine hK _ _ (wp_ret ?_);refine bodyPost_ret (results_tmp rfl _ _ _) rfl ?_;exact⟨by rw[hA0],rfl⟩
theorem zXm(w:World) :
  Calls Tryz.prog 113 #[] w λe w'=>e=.returned (.slice (some ⟨w.heap.size,0,none⟩) 25 25)/\w'=w.alloc (.cells wordVals 9):=by
 go_enter Tryz.func113,Tryz.ntmps113;go_upto_region 1 with(fail);refine wp_region_lit ?_;refine jW 2 (w.alloc (.cells wordVals 9)) Oa Oa ?_;refine wpList_nil ?_;generalize hA:actOf _ _ _ _=A;have hA0:A.tmps.getD 0 undef=.slice (some ⟨w.heap.size,0,none⟩) 25 25:=by rw[<-hA];kernel_rfl
 have hAd:A.defers=[]:=by rw[<-hA];kernel_rfl
 clear hA;obtain⟨tm,df⟩:=A;simp only[]at hA0 hAd;subst hAd;rename_i hK;refine hK _ _ (wp_ret ?_);refine bodyPost_ret (results_tmp rfl _ _ _) rfl ?_;exact⟨by rw[hA0],rfl⟩
def rangeVals(l:List (Nat×Nat)):List Value:=l.flatMap λp=>[Value.int .i64 p.1,Value.int .i64 p.2]
theorem zNn(l:List (Nat×Nat))(i:Nat)(hi:i<l.length):(rangeVals l)[i*2]?=some (.int .i64 (frm l i))/\(rangeVals l)[i*2+1]?=some (.int .i64 (too l i)):=by
 induction l generalizing i with
 |nil=>simp at hi
 |cons p l ih =>
  cases i with
  |zero=>exact⟨rfl,rfl⟩
  |succ i =>
   have:=ih i (by simpa using hi);have e1:(i+1)*2=i*2+2:=Z;rw[e1];exact this
theorem yCe(r:Int)(v:Value)(l:List (Nat×Nat))(w:World)(hv:Row w v l.length 2 (rangeVals l))(hl:l.length<=1000000)(hb0:∀i,i<l.length->frm l i<=1114112/\too l i<=1114112) :
  Calls Tryz.prog 114 #[.int .i64 r,v] w λe w'=>e=.returned (.bool (inR l r))/\w=w':=by
 obtain⟨_,a,cap,rfl,hc,_,hcell⟩:=hv;have HC:=Hd hcell;have HB:=Hd hb0;clear hcell hb0;go_enter Tryz.func114,Tryz.ntmps114;go_wp2_with fail
 go_loop [5] (λi=>∃k:Nat,i=.int .i64 k/\k<=l.length/\(∀j,j<k->r<(frm l j:Int)\/(too l j:Int)<r)) (λi=>l.length-(intOf i).toNat)
 case atStart=>exact⟨0,rfl,Nat.zero_le _,λj h=>Z⟩
 case round =>
  obtain⟨k,rfl,hk,hno⟩:=hrel;have HN:=Hd hno;clear hno;by_cases hlt:k<l.length
  .obtain⟨b,off,rfl,hbl,hcl⟩:=HC.out Z;have hv:=zNn l k hlt;have h0:w.cell? ⟨b,off+k*2,none⟩=some (.int .i64 (frm l k)):=by rw[hcl _ Z];exact hv.1
   have h1:w.cell? ⟨b,off+k*2+1,none⟩=some (.int .i64 (too l k)):=by rw[Nat.add_assoc,hcl _ Z];exact hv.2
   have hyes:=zZe l r k hlt;have hkl:(k:Int)<l.length:=Z;have hbk:=HB.out k hlt;clear hcl hv;generalize hf:frm l k=f at *;generalize ht:too l k=t at *;have HF:=Hd hf;have HT:=Hd ht;have HY:=Hd hyes;clear hf ht hyes;by_cases g1:(f:Int)<=r
   .by_cases g2:r<=(t:Int)
    .go_wp2_with fail;go_ret;exact⟨zX (HY.out g1 g2).symm,rfl⟩
    .go_wp2_with fail
     go_round
     case rel=>exact⟨k+1,by go_num,Z,λj hj=>by
      by_cases e:j=k
      .subst e;have:=HT.out;omega
      .exact HN.out j Z⟩
     case measure=>simp[intOf];omega
   .go_wp2_with fail
    go_round
    case rel=>exact⟨k+1,by go_num,Z,λj hj=>by
     by_cases e:j=k
     .subst e;have:=HF.out;omega
     .exact HN.out j Z⟩
    case measure=>simp[intOf];omega
  .have hkl:(l.length:Int)<=k:=Z;have HX:=Hd (zOn l r λi hi=>HN.out i Z);go_wp2_with fail;go_ret;exact⟨zX HX.out.symm,rfl⟩
theorem zFa:(zW .i64).toList=rangeVals zF:=rfl
theorem zGs:(digitCells .i64).toList=rangeVals xP:=rfl
theorem zNo:∀i,i<5->frm xP i<=1114112/\too xP i<=1114112:=by decide +kernel
theorem zIv:∀i,i<33->frm zF i<=1114112/\too zF i<=1114112:=by decide +kernel
theorem zIw(r:Int)(w:World) :
  Calls Tryz.prog 68 #[.int .i64 r] w λe w'=>e=.returned (.bool (letter r))/\Below w.heap.size w w':=by
 have hR:=zVd w (zW .i64) 169 33 2 (by decide +kernel);rw[zFa]at hR;have HL:=Hd (show letter r=inR zF r by unfold letter;rfl);have HI:=Hd (yCe r _ zF _ hR V zIv);have HC:=Hd (zQi w);have HB:=Hd ((bR _ w).alloc (nR _) (.cells (zW .i64) 169));clear hR;generalize inR zF r=x at *;generalize zW .i64=C at *;go_enter Tryz.func68,Tryz.ntmps68;go_wp2_with fail;refine HC.out.mono ?_;rintro e w1 ⟨rfl,rfl⟩;go_wp2_with fail;refine HI.out.mono ?_;rintro e w1 ⟨rfl,rfl⟩;go_wp2_with fail;go_ret;exact⟨zX HL.out.symm,HB.out⟩
theorem zXn(r:Int)(w:World) :
  Calls Tryz.prog 69 #[.int .i64 r] w λe w'=>e=.returned (.bool (digit r))/\Below w.heap.size w w':=by
 have hR:=zVd w (digitCells .i64) 169 5 2 (by decide +kernel);rw[zGs]at hR;have HL:=Hd (show digit r=inR xP r by unfold digit;rfl);have HI:=Hd (yCe r _ xP _ hR V zNo);have HC:=Hd (zTc w);have HB:=Hd ((bR _ w).alloc (nR _) (.cells (digitCells .i64) 169));clear hR;generalize inR xP r=x at *;generalize digitCells .i64=C at *;go_enter Tryz.func69,Tryz.ntmps69;go_wp2_with fail;refine HC.out.mono ?_;rintro e w1 ⟨rfl,rfl⟩;go_wp2_with fail;refine HI.out.mono ?_;rintro e w1 ⟨rfl,rfl⟩;go_wp2_with fail;go_ret;exact⟨zX HL.out.symm,HB.out⟩
theorem zQj(i:Nat)(hi:i<25):wordVals[i]?=some (.string ⟨(words.getD i []).toArray⟩):=by
 have h:i<words.length:=hi;unfold wordVals;simp only[List.getElem?_toArray,List.getElem?_map,gE h,Option.map_some,gD,Option.getD_some]
theorem yCf(s:ByteArray)(i:Nat)(hi:i<25)(h:(words.getD i []==s.toList)=true):word s=true:=by
 have h2:i<words.length:=hi;unfold word;rw[List.any_eq_true];refine⟨words[i],gM h2,?_⟩;rw[gD,gE h2,Option.getD_some,beq_iff_eq]at h;rw[beq_iff_eq,h]
theorem word_no(s:ByteArray)(h:∀i,i<25->(words.getD i []==s.toList)=false):word s=false:=by
 unfold word;rw[List.any_eq_false];intro x hx;obtain⟨i,hi,rfl⟩:=List.getElem_of_mem hx;have:=h i hi;rw[gD,gE hi,Option.getD_some,bE]at this;simp only[beq_iff_eq];exactλe=>this e.symm
theorem yCg(s:ByteArray)(w:World) :
  Calls Tryz.prog 67 #[.string s] w λe w'=>e=.returned (.bool (word s))/\Below w.heap.size w w':=by
 have HC:=Hd (zXm w);have HW:=Hd zQj;have HB:=Hd ((bR _ w).alloc (nR _) (.cells wordVals 9));have hcell:∀j,(w.alloc (.cells wordVals 9)).cell? ⟨w.heap.size,j,none⟩=wordVals[j]?:=λj=>World.cell?_alloc_at _ _ _ _ rfl
 have HCL:=Hd hcell;clear hcell;generalize wordVals=C at *;go_enter Tryz.func67,Tryz.ntmps67;go_wp2_with fail;refine HC.out.mono ?_;rintro e w1 ⟨rfl,rfl⟩;generalize w.alloc (.cells C 9)=W at *;go_wp2_with fail
 go_loop [4] (λi=>∃k:Nat,i=.int .i64 k/\k<=25/\(∀j,j<k->(words.getD j []==s.toList)=false)) (λi=>25-(intOf i).toNat)
 case atStart=>exact⟨0,rfl,Nat.zero_le _,λj h=>Z⟩
 case round =>
  obtain⟨k,rfl,hk,hno⟩:=hrel;have HN:=Hd hno;clear hno;by_cases hlt:k<25
  .have h0:W.cell? ⟨w.heap.size,k,none⟩=some (.string ⟨(words.getD k []).toArray⟩):=by rw[HCL.out,HW.out k hlt]
   have hyes:=yCf s k hlt;have hnn:∀_:(words.getD k []==s.toList)=false,∀j,j<k+1->(words.getD j []==s.toList)=false:=λhx j hj=>by
    by_cases e:j=k
    .subst e;exact hx
    .exact HN.out j Z
   generalize words.getD k []=x at *;have HY:=Hd hyes;have HNN:=Hd hnn;clear hyes hnn;go_wp2_with fail
   .have hx:(x==s.toList)=true:=by assumption
    go_ret;exact⟨zX (HY.out hx).symm,HB.out⟩
   .have hx:(x==s.toList)=false:=by assumption
    go_round
    case rel=>exact⟨k+1,by go_num,Z,HNN.out hx⟩
    case measure=>simp[intOf];omega
  .have HX:=Hd (word_no s λi hi=>HN.out i Z);go_wp2_with fail;go_ret;exact⟨zX HX.out.symm,HB.out⟩
def ints(l:List Nat):List Int:=l.map λ(x:Nat)=>(x:Int)
theorem zJw(l:List Nat):longVals l=(ints l).map (Value.int .i64):=by simp[longVals,ints]
theorem zFl(l:List Nat):(ints l).length=l.length:=by simp[ints]
@[irreducible] def charsOk(s:ByteArray):List Int:=if bad s<0 then ints (chars s)else[]
theorem zAc{s:ByteArray}(h:bad s<0):charsOk s=ints (chars s):=by unfold charsOk;rw[iP h]
theorem zOh{s:ByteArray}(h:0<=bad s):charsOk s=[]:=by unfold charsOk;rw[iN Z]
theorem zHh(s:ByteArray):(charsOk s).length<=s.size:=by
 unfold charsOk;split
 .rw[zFl];exact zOd s
 .simp
theorem zYy(s:ByteArray)(w:World)(hs:s.size<=1099511627775) :
  Calls Tryz.prog 66 #[.string s] w λe w'=>∃v,e=.returned (.tuple #[v,.bool (decide (bad s<0))])/\Below w.heap.size w w'/\w'.ownsRow w.heap.size 2 1 v (charsOk s).length ((charsOk s).map (Value.int .i64)):=by
 by_cases h:bad s<0
 .refine(yFn s w hs h).mono ?_;rintro e w' ⟨v,rfl,hb,hown⟩;exact⟨v,by simp[h],hb,by rw[zAc h,zFl,<-zJw];exact hown⟩
 .refine(zQh s w hs Z).mono ?_;rintro e w' ⟨rfl,hb⟩;exact⟨.slice none 0 0,by simp[h],hb,by rw[zOh Z];exact World.ownsRow_nil _ _ _ _⟩
theorem zXo(l:List Int):chk false l=l.all λx=>letter x || digit x:=by
 induction l with
 |nil=>rfl
 |cons x l ih=>simp[chk,ih]
def okAll(l:List Int):Bool:=l.all λx=>letter x || digit x
theorem yCh(l:List Int)(i:Nat)(hi:i<l.length)(h1:letter l[i]=false)(h2:digit l[i]=false):okAll l=false:=by
 unfold okAll;rw[List.all_eq_false];exact⟨l[i],gM hi,by simp[h1,h2]⟩
theorem zXp(l:List Int)(h:∀i (hi:i<l.length),(letter l[i] || digit l[i])=true):okAll l=true:=by
 unfold okAll;rw[List.all_eq_true];intro x hx;obtain⟨i,hi,rfl⟩:=List.getElem_of_mem hx;exact h i hi
theorem zEa(s:ByteArray):name s=(!s.toList.isEmpty&&!word s&&decide (bad s<0)&&chk true (nats (chars s))):=by unfold name nats;rfl
theorem yCi{s:ByteArray}(h:¬bad s<0):name s=false:=by rw[zEa,decide_eq_false h];simp
theorem zXq{s:ByteArray}(h:word s=true):name s=false:=by rw[zEa,h];simp
theorem zGb{s:ByteArray}(h:bad s<0):chars s=[]↔s.toList.isEmpty=true:=by
 rw[zLw];have hn:=(zHf s).1 h;unfold chars;constructor
 .intro e;by_cases hz:0<s.size
  .have h0:(rd s 0).2≠0:=by
    rcases vP s 0 hz with⟨h1,_⟩|⟨h1,_⟩
    .exact absurd h1 (zQs hz hn)
    .exact Nat.ne_of_gt h1
   rw[vU hz h0]at e;cases e
  .exact decide_eq_true Z
 .intro e;have:s.size=0:=by simpa using e
  rw[gY Z]
theorem yCj{s:ByteArray}(hb:bad s<0)(h:charsOk s=[]):name s=false:=by
 rw[zAc hb]at h;have:chars s=[]:=by unfold ints at h;simpa using h
 rw[zEa,(zGb hb).1 this];simp
theorem zXr{s:ByteArray}(hb:bad s<0)(hw:word s=false)(hn:0<(charsOk s).length):name s=(letter ((charsOk s)[0]'hn)&&okAll (charsOk s)):=by
 have e:=zAc hb;have hne:s.toList.isEmpty=false:=by
  cases h:s.toList.isEmpty
  .rfl
  .have:=(zGb hb).2 h;rw[e,this]at hn;simp[ints]at hn
 have e2:nats (chars s)=charsOk s:=by rw[e];rfl
 rw[zEa,hne,hw,decide_eq_true hb,e2];generalize charsOk s=l at *;cases l with
 |nil=>simp at hn
 |cons x l =>
  simp only[chk,zXo,okAll,List.all_cons,List.getElem_cons_zero];cases letter x<;>simp
theorem yCk(s:ByteArray)(w:World)(hs:s.size<=1099511627775) :
  Calls Tryz.prog 41 #[.string s] w λe w'=>e=.returned (.bool (name s))/\Below w.heap.size w w':=by
 have CA:=Hd (λw=>zYy s w hs);have CW:=Hd (λw=>yCg s w);by_cases hb:bad s<0
 .have hcl:=zHh s;have H0:=Hd (@yCj s hb);have H1:=Hd (@zXq s);have H2:=Hd (@zXr s hb);rw[decide_eq_true hb]at CA;generalize charsOk s=l at *;clear hb;go_enter Tryz.func41,Tryz.ntmps41;go_wp2_with fail;refine(CA.out _).mono ?_;rintro e w1 ⟨v,rfl,hb1,hown⟩;have hr:=zK.of_owns hown;obtain⟨a,cap,rfl,hc,hcell⟩:=hr.open';have HC:=Hd hcell;clear hcell hown hr;by_cases hl:l=[]
  .subst hl;go_wp2_with fail;go_ret;exact⟨zX (H0.out Ob).symm,hb1⟩
  .have hpos:0<l.length:=List.length_pos_iff.2 hl;have hp1:((l.length:Int)==0)=false:=by simp;omega
   have HL:=Hd hl;clear hl;cases hw:word s
   .rw[hw]at CW;have HN:=Hd (H2.out hw hpos);clear hw H0 H1 H2;go_wp2_with fail;refine(CW.out _).mono ?_;rintro e w2 ⟨rfl,hb2⟩;have hb12:=zD hb1 hb2;obtain⟨b,off,rfl,hbl,hcl'⟩:=HC.out hpos;have h0:=(hb2.cell (p:=⟨b,off+0,none⟩) hbl).trans (hcl' 0 hpos);rw[Nat.add_zero]at h0;have HCL:=Hd hcl';have C0:=Hd (λw=>zIw l[0] w);have hpi:(0:Int)<l.length:=Z;clear hcl';generalize h00:l[0]=x0 at *;have H00:=Hd h00;clear h00;cases hl0:letter x0
    .rw[hl0]at C0 HN;clear hl0;go_wp2_with fail;refine(C0.out _).mono ?_;rintro e w3 ⟨rfl,hb3⟩;go_wp2_with fail;go_ret;exact⟨zX (by rw[HN.out];rfl),zD hb12 hb3⟩
    .rw[hl0]at C0 HN;clear hl0;go_wp2_with fail;refine(C0.out _).mono ?_;rintro e w3 ⟨rfl,hb3⟩;have hb13:=zD hb12 hb3;have hb23:=zD hb2 hb3;clear h0;go_wp2_with fail;go_loopw [5] (λi wr=>∃k:Nat,i=.int .i64 k/\k<=l.length/\(∀j (hj:j<l.length),j<k->(letter l[j] || digit l[j])=true)/\Below w1.heap.size w1 wr) (λi _=>l.length-(intOf i).toNat)
     case atStart=>exact⟨0,rfl,Nat.zero_le _,λj _ h=>Z,hb23⟩
     case round =>
      obtain⟨k,rfl,hk,hyes,hbr⟩:=hrel;have HY:=Hd hyes;clear hyes;have hb1r:=zD hb1 hbr;by_cases hlt:k<l.length
      .have h1:=(hbr.cell (p:=⟨b,off+k,none⟩) hbl).trans (HCL.out k hlt);have CL:=Hd (λw=>zIw l[k] w);have CD:=Hd (λw=>zXn l[k] w);have hnx:(letter l[k] || digit l[k])=true->∀j (hj:j<l.length),j<k+1->(letter l[j] || digit l[j])=true:=λhx j hj hjk=>by
        by_cases e:j=k
        .subst e;exact hx
        .exact HY.out j hj Z
       have hno:=yCh l k hlt;have HNX:=Hd hnx;have HNO:=Hd hno;have hkl:(k:Int)<l.length:=Z;clear hnx hno;generalize l[k]=x at *;cases hlx:letter x
       .rw[hlx]at CL HNX HNO;cases hdx:digit x
        .rw[hdx]at CD HNX HNO;clear hlx hdx;go_wp2_with fail;refine(CL.out _).mono ?_;rintro e w4 ⟨rfl,hb4⟩;have h2:=(hb4.cell (p:=⟨b,off+k,none⟩) (Nat.lt_of_lt_of_le hbl hbr.size)).trans h1;clear h1;go_wp2_with fail;refine(CD.out _).mono ?_;rintro e w5 ⟨rfl,hb5⟩;go_wp2_with fail;go_ret;exact⟨zX (by rw[HN.out,HNO.out Ob Ob];rfl),zD (zD hb1r hb4) hb5⟩
        .rw[hdx]at CD HNX;clear hlx hdx;go_wp2_with fail;refine(CL.out _).mono ?_;rintro e w4 ⟨rfl,hb4⟩;have h2:=(hb4.cell (p:=⟨b,off+k,none⟩) (Nat.lt_of_lt_of_le hbl hbr.size)).trans h1;clear h1;go_wp2_with fail;refine(CD.out _).mono ?_;rintro e w5 ⟨rfl,hb5⟩;go_wp2_with fail;go_roundw
         case rel=>exact⟨k+1,by go_num,Z,HNX.out Ob,zD (zD hbr hb4) hb5⟩
         case measure=>simp[intOf];omega
       .rw[hlx]at CL HNX;clear hlx;go_wp2_with fail;refine(CL.out _).mono ?_;rintro e w4 ⟨rfl,hb4⟩;go_wp2_with fail;go_roundw
        case rel=>exact⟨k+1,by go_num,Z,HNX.out Ob,zD hbr hb4⟩
        case measure=>simp[intOf];omega
      .have hkl:(l.length:Int)<=k:=Z;have HX:=Hd (zXp l λi hi=>HY.out i hi Z);go_wp2_with fail;go_ret;exact⟨zX (by rw[HN.out,HX.out];rfl),hb1r⟩
   .rw[hw]at CW;have HN:=Hd (H1.out hw);clear hw H0 H1 H2;go_wp2_with fail;refine(CW.out _).mono ?_;rintro e w2 ⟨rfl,hb2⟩;go_wp2_with fail;go_ret;exact⟨zX HN.out.symm,zD hb1 hb2⟩
 .have HN:=Hd (yCi hb);rw[decide_eq_false hb]at CA;clear hb;go_enter Tryz.func41,Tryz.ntmps41;go_wp2_with fail;refine(CA.out _).mono ?_;rintro e w1 ⟨v,rfl,hb1,hown⟩;go_wp2_with fail;go_ret;exact⟨zX HN.out.symm,hb1⟩
end Go.Proofs.YtfpjdpdmgceciaaGreatDoor
