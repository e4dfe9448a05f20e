/- The program's functions of layer 1, walked. -/
import Derived.Test.YtfpjdpdmgceciaaGreatDoorCoreTg
import Derived.Test.YtfpjdpdmgceciaaGreatDoorU8Tg
import Derived.Test.YtfpjdpdmgceciaaGreatDoorShelfQTg
import Derived.Deep.RegionWith
import Derived.Test.YtfpjdpdmgceciaaGreatDoorRef01Tg
namespace Go.Proofs.YtfpjdpdmgceciaaGreatDoor
open Go.RowKit
def Tabs(w:World):Prop:=Lib.Utf8Tabs 1 2 w/\1<w.heap.size/\2<w.heap.size
theorem Tabs.below{w w':World}(h:Tabs w)(hb:Below w.heap.size w w'):Tabs w':=by
 obtain⟨⟨h1,h2⟩,h3,h4⟩:=h;refine⟨⟨λc hc=>?_,λi hi=>⟨?_,?_⟩⟩,Nat.lt_of_lt_of_le h3 hb.size,Nat.lt_of_lt_of_le h4 hb.size⟩
 .rw[hb.cell (p:=⟨_,c,none⟩) h3];exact h1 c hc
 .rw[hb.cell (p:=⟨_,2*i,none⟩) h4];exact(h2 i hi).1
 .rw[hb.cell (p:=⟨_,2*i+1,none⟩) h4];exact(h2 i hi).2
theorem zJe(s:ByteArray)(i:Nat):Utf8.decode (s.extract i s.size) 0=Utf8.decode s i:=by
 rw[Lib.decode_at,Lib.decode_at];have hz:(s.extract i s.size).size=s.size-i:=Ob;have g:∀k,(s.extract i s.size).get! k=s.get! (i+k):=λk=>by
  by_cases h:i+k<s.size
  .exact get!_extract s i s.size k h (nR _)
  .rw[get!_ge _ _ (by rw[hz];omega),get!_ge _ _ Z]
 simp only[g,hz,Nat.zero_add,Nat.add_zero,Nat.sub_zero]
theorem gV(s:ByteArray)(at':Int)(w:World)(hT:Tabs w) :
  Calls Tryz.prog 160 #[.string s,.int .i64 at'] w λe w'=>e=.returned (.tuple #[.int .i32 (rdI s at').1,.int .i64 (rdI s at').2])/\Below w.heap.size w w':=by
 by_cases hi:0<=at'/\at'<s.size
 .obtain⟨i,rfl⟩:=Int.eq_ofNat_of_zero_le hi.1;have hi2:i<s.size:=Z;clear hi;have C:∀w,Tabs w->_:=λw hT=>Tryz.utf8_DecodeRuneInString (s.extract i s.size) w hT.1
  have hd:Lib.decodeGo (s.extract i s.size)=Utf8.decode s i:=by
   unfold Lib.decodeGo;rw[iN (by simp;omega),zJe]
  rw[hd]at C;have C':=Hd C;have hr:=zAu hi2;rw[<-yF]at hr;clear C hd;generalize Utf8.decode s i=d at *;obtain⟨d1,d2⟩:=d;have HR:=Hd hr;clear hr;go_enter Tryz.func160,Tryz.ntmps160;go_wp2_with (go_at_call 199;refine(C'.out _ hT).mono ?_;rintro e w' ⟨rfl,hb'⟩);all_goals go_ret2
  all_goals(refine⟨xL ?_ ?_,hb'⟩<;>(have hr:=HR.out;rw[hr];clear HR;split<;>first|rfl|omega))
 .have HR:=Hd (show rdI s at'=(0,0)by
   by_cases h:at'<0
   .exact zVq h
   .obtain⟨i,rfl⟩:=Int.eq_ofNat_of_zero_le (by omega:0<=at');rw[yF,zJq Z])
  by_cases hn:at'<0
  .clear hi;go_enter Tryz.func160,Tryz.ntmps160;go_wp2_with fail
   go_ret2
   exact⟨xL (by rw[HR.out];rfl) (by rw[HR.out];rfl),bR _ _⟩
  .have hge:s.size<=at':=Z;clear hi;go_enter Tryz.func160,Tryz.ntmps160;go_wp2_with fail
   go_ret2
   exact⟨xL (by rw[HR.out];rfl) (by rw[HR.out];rfl),bR _ _⟩
theorem zTn(r:Int)(w:World) :
  Calls Tryz.prog 251 #[.int .i32 r] w λe w'=>e=.returned (.string (form r))/\w=w':=by
 have C:∀w,_:=λw=>Tryz.utf8_ValidRune r w
 rw[zKi]at C;cases hm:may r
 .rw[hm]at C;have C':=Hd C;have HF:=Hd (zFh hm);clear C hm;go_enter Tryz.func251,Tryz.ntmps251;go_wp2_with (go_at_call 256;refine(C'.out _).mono ?_;rintro e w' ⟨rfl,rfl⟩);go_ret;exact⟨zGt (by rw[HF.out];rfl),rfl⟩
 .rw[hm]at C;have C':=Hd C;have HF:=Hd (zRj hm);clear C hm;go_enter Tryz.func251,Tryz.ntmps251;go_wp2_with (go_at_call 256;refine(C'.out _).mono ?_;rintro e w' ⟨rfl,rfl⟩);go_ret;exact⟨zGt (by rw[HF.out]),rfl⟩
set_option maxHeartbeats 1000000 in
theorem zLp(s:ByteArray)(w:World)(hT:Tabs w) :
  Calls Tryz.prog 124 #[.string s] w λe w'=>e=.returned (.int .i64 (bad s))/\Below w.heap.size w w':=by
 go_enter Tryz.func124,Tryz.ntmps124;go_wp2_with fail;go_loopw [] (λwr=>∃pos,wr.heap[w.heap.size]?=some (.stringIter s pos)/\pos<=s.size/\bad s=badZ (scan s pos).2/\Below w.heap.size w wr) (λwr=>iterLeft w.heap.size wr)
 case atStart=>exact⟨0,World.iter_heap _ _ _,Nat.zero_le _,by unfold bad;rfl,(bR _ _).alloc (nR _) _⟩
 case round =>
  obtain⟨pos,hk,hpos,hbad,hb⟩:=hrel;have HB:=Hd hbad;have HK:=Hd hk;have HT:=Hd (hT.below hb);have hz:=yH hk;clear hbad;by_cases hp:pos<s.size
  .have hn:=λty=>Lib.run_next_any_at (P:=Tryz.prog) wr w.heap.size s pos ty hk hp
   have hb2:Below w.heap.size w (wr.iterAt w.heap.size s (pos+(Utf8.decode s pos).2)):=Lib.below_iterAt hb (nR _) _ _;have hk2:=Lib.iterAt_heap wr w.heap.size s pos (pos+(Utf8.decode s pos).2) hk;have hT2:=hT.below hb2;generalize hW:wr.iterAt w.heap.size s (pos+(Utf8.decode s pos).2)=W at *;clear hk hW;rcases vP s pos hp with⟨h1,h2⟩|⟨h1,h2,h3,h4,h5,h6⟩
   .rw[h2]at hn;simp only[]at hn;have C:=λw hT=>gV s pos w hT;rw[yF,h1]at C;have C':=Hd C;have HR:=Hd (zAb hp (by rw[h1]));clear h1 h2 C;go_wp2_with (go_at_call 160;refine(C'.out _ hT2).mono ?_;rintro e w' ⟨rfl,hb'⟩);go_ret;exact⟨zAg (by rw[HB.out,HR.out];rfl),hb2.trans (hb'.mono hb2.size)⟩
   .have HR:=Hd (vU hp Z);rw[h6]at hn hk2;have C:=λw hT=>gV s pos w hT;rw[yF]at C;generalize rd s pos=d at *;obtain⟨d1,d2⟩:=d;simp only[]at *;have C':=Hd C;have h8:((d2:Int)==0)=false:=by simp;omega
    have hp2:=Hd h3;clear C h4 h5 h6 h3;by_cases h9:d1=65533
    .subst h9;go_wp2_with (go_at_call 160;refine(C'.out _ hT2).mono ?_;rintro e w' ⟨rfl,hb'⟩);have hb3:=hb2.trans (hb'.mono hb2.size);have hk3:=keeps hb' hk2;go_roundw
     case rel=>exact⟨pos+d2,hk3,hp2.out,by rw[HB.out,HR.out],hb3⟩
     case measure=>rw[yD hk3,yD HK.out];have:=hp2.out;omega
    .have h10:((d1:Int) != 65533)=true:=by rw[bne_iff_ne];omega
     have H9:=Hd h9;clear h9;go_wp2_with fail;go_roundw
     case rel=>exact⟨pos+d2,hk2,hp2.out,by rw[HB.out,HR.out],hb2⟩
     case measure=>rw[yD hk2,yD HK.out];have:=hp2.out;omega
  .have hn:=λty=>Lib.run_next_end_at (P:=Tryz.prog) wr w.heap.size s pos ty hk hp
   have HR:=Hd (gY (s:=s) (i:=pos) Z);clear hk;go_wp2_with fail;go_ret;exact⟨zAg (by rw[HB.out,HR.out];rfl),hb⟩
theorem zQr:(Tryz.prog.info? 2).map (λi=>(i.zero,i.size,i.bytes))=some (some (.int .i64 0),1,8):=Oa
def longVals(l:List Nat):List Value:=l.map λ(x:Nat)=>Value.int .i64 (x:Int)
theorem zQs{s:ByteArray}{i:Nat}(h:i<s.size)(hn:(scan s i).2=none):rd s i≠(0,0):=by
 intro h0;rw[zAb h (by rw[h0])]at hn;cases hn
theorem yCd(s:ByteArray)(i:Nat)(h:i<s.size):i+(rd s i).2<=s.size:=by
 have:=xH s i;omega
set_option maxHeartbeats 1000000 in
theorem zQh(s:ByteArray)(w:World)(hs:s.size<=1099511627775)(hbad:0<=bad s) :
  Calls Tryz.prog 66 #[.string s] w λe w'=>e=.returned (.tuple #[.slice none 0 0,.bool false])/\Below w.heap.size w w':=by
 have HX:=Hd (show(scan s 0).2≠none fromλh=>by have:=(zHf s).2 h;omega);have HL:=Hd (zBu s 0);go_enter Tryz.func66,Tryz.ntmps66;go_wp2_with fail;go_loopw [4,5] (λv a wr=>∃pos:Nat,a=.int .i64 pos/\pos<=s.size/\∃l:List Nat,l++(scan s pos).1=(scan s 0).1/\(scan s pos).2=(scan s 0).2/\Below w.heap.size w wr/\wr.ownsRow w.heap.size 2 1 v l.length (longVals l)) (λ_ a _=>s.size-(intOf a).toNat)
 case atStart=>exact⟨0,rfl,Nat.zero_le _,[],rfl,rfl,bR _ _,World.ownsRow_nil _ _ _ _⟩
 case round =>
  obtain⟨pos,rfl,hpos,l,hl,hnn,hb,hown⟩:=hrel;have HN:=Hd hnn;have HLL:=Hd hl;have hll:l.length<=1099511627775:=by
   have h1:=HL.out;have h2:=congrArg List.length hl;rw[lA]at h2;omega
  clear hl hnn;by_cases hp:pos<s.size
  .have C:=λw=>zIu s pos w Z;rw[yF]at C;by_cases h0:(rd s pos).2=0
   .have h1:(((rd s pos).2:Int)==0)=true:=by simp[h0]
    generalize rd s pos=d at *;obtain⟨d1,d2⟩:=d;have C':=Hd C;clear C h0;go_wp2_with (go_at_call 112;refine(C'.out _).mono ?_;rintro e w' ⟨rfl,hb'⟩)
    go_ret2
    exact⟨rfl,hb.trans (hb'.mono hb.size)⟩
   .have HR:=Hd (vU hp h0);have hb2:=yCd s pos hp;have h1:(((rd s pos).2:Int)==0)=false:=by simp[h0]
    have h2:0<(rd s pos).2:=Z;generalize rd s pos=d at *;obtain⟨d1,d2⟩:=d;have C':=Hd C;clear C h0;simp only[]at *;go_wp2_with fail;refine(C'.out _).mono ?_;rintro e w' ⟨rfl,hb'⟩;have hown2:=yM hown hb';have hb3:=hb.trans (hb'.mono hb.size);clear hown hb';go_wp2_with (at_builtin;refine zQ w' #[.int .i64 (d1:Int)] _ rfl _ _ 110 2 rfl Tryz.underlying110 w.heap.size zQr rfl V _ _ _ rfl hown2 1 1 rfl rfl V ?_ ?_ ?_ ?_ ?_)
    .rfl
    .omega
    .omega
    .exact hb3.size
    .intro v' w' hown3 hgr _;have hb4:=xM hb3 hb3.size hown2 hgr;clear hown2 hgr hb3;go_wp2_with fail;go_roundw
     case rel=>exact⟨pos+d2,by go_num,hb2,l++[d1],by rw[<-HLL.out,HR.out];simp,by rw[<-HN.out,HR.out],hb4,by simpa[longVals]using hown3⟩
     case measure=>simp[intOf];omega
  .exfalso;exact HX.out (by rw[<-HN.out,gY Z])
set_option maxHeartbeats 1000000 in
theorem yFn(s:ByteArray)(w:World)(hs:s.size<=1099511627775)(hbad:bad s<0) :
  Calls Tryz.prog 66 #[.string s] w λe w'=>∃v,e=.returned (.tuple #[v,.bool true])/\Below w.heap.size w w'/\w'.ownsRow w.heap.size 2 1 v (chars s).length (longVals (chars s)):=by
 have HX:=Hd ((zHf s).1 hbad);have HL:=Hd (zBu s 0);have HC:=Hd (show chars s=(scan s 0).1 by unfold chars;rfl);go_enter Tryz.func66,Tryz.ntmps66;go_wp2_with fail;go_loopw [4,5] (λv a wr=>∃pos:Nat,a=.int .i64 pos/\pos<=s.size/\∃l:List Nat,l++(scan s pos).1=(scan s 0).1/\(scan s pos).2=(scan s 0).2/\Below w.heap.size w wr/\wr.ownsRow w.heap.size 2 1 v l.length (longVals l)) (λ_ a _=>s.size-(intOf a).toNat)
 case atStart=>exact⟨0,rfl,Nat.zero_le _,[],rfl,rfl,bR _ _,World.ownsRow_nil _ _ _ _⟩
 case round =>
  obtain⟨pos,rfl,hpos,l,hl,hnn,hb,hown⟩:=hrel;have HN:=Hd hnn;have HLL:=Hd hl;have hll:l.length<=1099511627775:=by
   have h1:=HL.out;have h2:=congrArg List.length hl;rw[lA]at h2;omega
  clear hl hnn;by_cases hp:pos<s.size
  .have C:=λw=>zIu s pos w Z;rw[yF]at C;by_cases h0:(rd s pos).2=0
   .exfalso;have h1:=HN.out;rw[zAb hp h0,HX.out]at h1;cases h1
   .have HR:=Hd (vU hp h0);have hb2:=yCd s pos hp;have h1:(((rd s pos).2:Int)==0)=false:=by simp[h0]
    have h2:0<(rd s pos).2:=Z;generalize rd s pos=d at *;obtain⟨d1,d2⟩:=d;have C':=Hd C;clear C h0;simp only[]at *;go_wp2_with fail;refine(C'.out _).mono ?_;rintro e w' ⟨rfl,hb'⟩;have hown2:=yM hown hb';have hb3:=hb.trans (hb'.mono hb.size);clear hown hb';go_wp2_with (at_builtin;refine zQ w' #[.int .i64 (d1:Int)] _ rfl _ _ 110 2 rfl Tryz.underlying110 w.heap.size zQr rfl V _ _ _ rfl hown2 1 1 rfl rfl V ?_ ?_ ?_ ?_ ?_)
    .rfl
    .omega
    .omega
    .exact hb3.size
    .intro v' w' hown3 hgr _;have hb4:=xM hb3 hb3.size hown2 hgr;clear hown2 hgr hb3;go_wp2_with fail;go_roundw
     case rel=>exact⟨pos+d2,by go_num,hb2,l++[d1],by rw[<-HLL.out,HR.out];simp,by rw[<-HN.out,HR.out],hb4,by simpa[longVals]using hown3⟩
     case measure=>simp[intOf];omega
  .have e1:l=chars s:=by
    have h1:=HLL.out;rw[gY Z,<-HC.out]at h1
    simpa using h1
   go_wp2_with fail
   go_ret2
   exact⟨_,rfl,hb,by rw[<-e1];exact hown⟩
end Go.Proofs.YtfpjdpdmgceciaaGreatDoor
