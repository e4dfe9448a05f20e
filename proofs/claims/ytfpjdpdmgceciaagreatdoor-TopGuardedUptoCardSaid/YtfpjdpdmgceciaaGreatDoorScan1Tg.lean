/- Layer 7: the program's functions, walked: Clean, word, sign. -/
import Derived.Test.YtfpjdpdmgceciaaGreatDoorScanPTg
import Derived.Test.YtfpjdpdmgceciaaGreatDoorClassTg
import Derived.Test.YtfpjdpdmgceciaaGreatDoorNumTg
import Derived.Deep.DeepCutAuto
import Derived.Test.YtfpjdpdmgceciaaGreatDoorCoreTg
namespace Go.Proofs.YtfpjdpdmgceciaaGreatDoor
set_option maxRecDepth 100000
set_option maxHeartbeats 32000000
set_option linter.all false
open Go.RowKit
theorem nb0(c:Nat)(h:c≠0):((c:Int)==0)=false:=by rw[bE];omega
theorem zTp{s:ByteArray}(hs:(scan s (upTo s)).2=(scan s 0).2):cleanZ s (upTo s)=if upTo s<s.size then(upTo s:Int)else -1:=by
 by_cases h:upTo s<s.size
 .rw[iP h];have h0:=yDq hs h;exact zFe h (by unfold badHere;simp[h0])
 .rw[iN h,zCk h]
theorem zTq(s:ByteArray)(w:World)(hT:Tabs w) :
  Calls Tryz.prog 141 #[.string s] w λe w'=>e=.returned (.int .i64 (clean s))/\Below w.heap.size w w':=by
 have HQ:Hid (∀w' n,clean s=n->Below w.heap.size w w'->(λ(e:Ending) w'=>e=.returned (.int .i64 (clean s))/\Below w.heap.size w w') (.returned (.int .i64 n)) w'):=Hd λw' n h h2=>⟨by rw[h],h2⟩
 generalize(λ(e:Ending) w'=>e=.returned (.int .i64 (clean s))/\Below w.heap.size w w')=Q at *;have CB:=zLp s w hT;rw[yDp]at CB;have HS:=Hd (λi=>@zYg s i);have HR:=Hd (λi=>@yGc s i);have HC:=Hd (@zTp s);have hle:=zNv s;have HCL:Hid (clean s=cleanZ s 0):=Hd (by unfold clean;rfl);have hz:(s.extract 0 (upTo s)).size=upTo s:=by rw[ByteArray.size_extract];omega
 have hsl:∀w,(Instr.slice 9 (.string s) none (some (.int .i64 (upTo s:Int))) none).run Tryz.prog w=.ok (.string (s.extract 0 (upTo s))) w:=λw=>by
  rw[run_slice_string_to_if _ _ s _ _ Tryz.underlying9,iP ⟨Z,Z⟩,Int.toNat_natCast]
 generalize upTo s=B at *;generalize s.extract 0 B=t at *;have HZ:=Hd hz;clear hz;obtain⟨bv,hbv⟩:∃bv:Int,bv=if B<s.size then(B:Int)else -1:=⟨_,rfl⟩
 rw[<-hbv]at CB;have CBh:=Hd CB;clear CB;have hbc:(B<s.size/\bv=B)\/(B=s.size/\bv=-1):=by
  by_cases h:B<s.size
  .exact Or.inl ⟨h,by rw[hbv,iP h]⟩
  .exact Or.inr ⟨Z,by rw[hbv,iN h]⟩
 clear hbv;go_enter Tryz.func141,Tryz.ntmps141;go_wp2_with fail;refine CBh.out.mono ?_;rintro e w1 ⟨rfl,hb1⟩;have HB1:=Hd hb1;clear hb1;go_upto_if 9 with(fail);go_cut [3] (λv wx=>v=.int .i64 (B:Int)/\Below w.heap.size w wx)
 case first =>
  rcases hbc with⟨hlt,rfl⟩|⟨hBe,rfl⟩
  .have hB0:¬(B:Int)<0:=Z;go_wp2_with fail;go_meet;exact⟨rfl,HB1.out⟩
  .have HBE:=Hd hBe;clear hBe;go_wp2_with fail;go_meet;exact⟨by rw[HBE.out],HB1.out⟩
 case rest =>
  obtain⟨rfl,hbx⟩:=hcut;clear hbc CBh;go_wp2_with fail;go_loopw [] (λwr=>∃pos,wr.heap[wc.heap.size]?=some (.stringIter t pos)/\pos<=B/\(scan s pos).2=(scan s 0).2/\clean s=cleanZ s pos/\Below w.heap.size w wr) (λwr=>iterLeft wc.heap.size wr)
  case atStart=>exact⟨0,World.iter_heap _ _ _,Nat.zero_le _,rfl,HCL.out,hbx.alloc hbx.size _⟩
  case round =>
   obtain⟨pos,hk,hpos,hsc,hcl,hb⟩:=hrel;have HK:=Hd hk;have HCP:=Hd hcl;have HSC:=Hd hsc;have hz1:=yH hk;have hbs:=hbx.size;clear hcl;by_cases hp:pos<B
   .have hpt:pos<t.size:=by have:=HZ.out;omega
    obtain⟨h0,hn0,hs2⟩:=HS.out _ hsc hp;have hrt:=HR.out _ h0 hn0;have hn:=λty=>Lib.run_next_any_at (P:=Tryz.prog) wr wc.heap.size t pos ty hk hpt
    have hb2:Below w.heap.size w (wr.iterAt wc.heap.size t (pos+(Utf8.decode t pos).2)):=Lib.below_iterAt hb Z _ _;have hk2:=Lib.iterAt_heap wr wc.heap.size t pos (pos+(Utf8.decode t pos).2) hk;generalize hW:wr.iterAt wc.heap.size t (pos+(Utf8.decode t pos).2)=W at *;have hdec:Utf8.decode t pos=rd s pos:=by
     rcases vP t pos hpt with⟨h1,_⟩|⟨_,_,_,_,_,h6⟩
     .rw[hrt]at h1;rw[h1]at h0;exact absurd rfl h0
     .rw[h6,hrt]
    rw[hdec]at hn hk2;have HBad:Hid (badHere s pos=(decide ((rd s pos).1=0) || (decide ((rd s pos).1=65279)&&decide (0<pos)))):=Hd (by unfold badHere;simp[h0]);have HStep:=Hd (@gW s pos Z);have HBd:=Hd (@zFe s pos Z);have hrl:=zRh s pos;clear hW hdec hrt hk hsc hb;generalize rd s pos=d at *;obtain⟨r,n⟩:=d;simp only[]at *;have HN0:=Hd hn0;have HS2:=Hd hs2;have H00:=Hd h0;clear hn0 hs2 h0;by_cases hr0:r=0
    .subst hr0;have HC0:Hid (clean s=(pos:Int)):=Hd (by rw[HCP.out];exact HBd.out (by rw[HBad.out];rfl));go_wp2_with fail;show Q (.returned (.int .i64 (pos:Int))) _;exact HQ.out _ _ HC0.out hb2
    .have hr0':((r:Int)==0)=false:=nb0 r hr0;have hr0'':¬(r:Int)=0:=Z;by_cases hrm:r=65279
     .subst hrm;by_cases hp0:0<pos
      .have hp0':(0:Int)<pos:=Z;have HC0:Hid (clean s=(pos:Int)):=Hd (by rw[HCP.out];exact HBd.out (by rw[HBad.out];simp[hp0]));go_wp2_with fail;show Q (.returned (.int .i64 (pos:Int))) _;exact HQ.out _ _ HC0.out hb2
      .have hp0':¬(0:Int)<pos:=Z;have HC0:Hid (clean s=cleanZ s (pos+n)):=Hd (by rw[HCP.out];exact HStep.out (by rw[HBad.out];simp[hp0]));go_wp2_with fail;go_roundw
       case rel=>exact⟨pos+n,hk2,HN0.out,HS2.out,HC0.out,hb2⟩
       case measure=>rw[yD hk2,yD HK.out];have:=HN0.out;have:=H00.out;have:=HZ.out;omega
     .have hrm':((r:Int)==65279)=false:=by rw[bE];omega
      have hrm'':¬(r:Int)=65279:=Z;have HC0:Hid (clean s=cleanZ s (pos+n)):=Hd (by rw[HCP.out];exact HStep.out (by rw[HBad.out];simp[hr0,hrm]));clear hr0 hrm;go_wp2_with fail;go_roundw
      case rel=>exact⟨pos+n,hk2,HN0.out,HS2.out,HC0.out,hb2⟩
      case measure=>rw[yD hk2,yD HK.out];have:=HN0.out;have:=H00.out;have:=HZ.out;omega
   .have hpB:pos=B:=Z;have hpt:¬pos<t.size:=by have:=HZ.out;omega
    have hn:=λty=>Lib.run_next_end_at (P:=Tryz.prog) wr wc.heap.size t pos ty hk hpt
    have HF:Hid (clean s=if B<s.size then(B:Int)else -1):=Hd (by
     rw[HCP.out,hpB];exact HC.out (by rw[<-hpB];exact hsc))
    clear hk hsc hpB hpt;by_cases hlt:B<s.size
    .have hlt':(B:Int)<s.size:=Z;rw[iP hlt]at HF;go_wp2_with fail;show Q (.returned (.int .i64 (B:Int))) _;exact HQ.out _ _ HF.out hb
    .have hlt':¬(B:Int)<s.size:=Z;rw[iN hlt]at HF;go_wp2_with fail;show Q (.returned (.int .i64 (-1))) _;exact HQ.out _ _ HF.out hb
theorem zTr:letter 65533=false:=by unfold letter;decide +kernel
theorem zXz:digit 65533=false:=by unfold digit;decide +kernel
theorem zQw(s:ByteArray)(a pos:Nat)(ha:a<=s.size)(hp:pos<(s.extract a s.size).size) :
  (rd s (a+pos)=(0,0)/\Utf8.decode (s.extract a s.size) pos=(65533,1))\/((rd s (a+pos)).2≠0/\Utf8.decode (s.extract a s.size) pos=rd s (a+pos)):=by
 have e:=zTa s a ha;have hz:(s.extract 0 a).size=a:=by rw[ByteArray.size_extract];omega
 have hr:=zEo (s.extract 0 a) (s.extract a s.size) pos;rw[e,hz]at hr;rw[hr];rcases vP (s.extract a s.size) pos hp with⟨h1,h2⟩|⟨h1,_,_,_,_,h2⟩
 .exact Or.inl ⟨h1,h2⟩
 .exact Or.inr ⟨Z,h2⟩
theorem zTs{s:ByteArray}{i:Nat}(h:i<s.size)(hc:inWord s i=true):wordTo s i=wordTo s (i+(rd s i).2):=by rw[wordTo,dif_pos ⟨h,hc⟩]
theorem zYa{s:ByteArray}{i:Nat}(h:¬(i<s.size/\inWord s i=true)):wordTo s i=i:=by rw[wordTo,dif_neg h]
@[irreducible] def wordPost(s:ByteArray)(a:Nat)(w0:World)(e:Ending)(w':World):Prop :=
 e=.returned (.tuple #[.int .u8 (if word (s.extract a (wordTo s a))then 2 else 1),.int .i64 (wordTo s a:Nat)])/\Below w0.heap.size w0 w'
theorem zYb(s:ByteArray)(a:Nat)(ha:a<=s.size)(hs:s.size<=2147483647)(w:World) :
  Calls Tryz.prog 213 #[.string s,.int .i64 (a:Int)] w (wordPost s a w):=by
 have HQ:Hid (∀w' b,word (s.extract a (wordTo s a))=b->Below w.heap.size w w'->wordPost s a w (.returned (.tuple #[.int .u8 (if b=true then 2 else 1),.int .i64 (wordTo s a:Nat)])) w'):=Hd λw' b h h2=>by
  unfold wordPost;rw[h];exact⟨rfl,h2⟩
 generalize wordPost s a w=Q at *;have hE:=gH s a ha;have CW:=Hd (λw=>zHk (s.extract a (wordTo s a)) w);have hz:(s.extract a s.size).size=s.size-a:=by rw[ByteArray.size_extract];omega
 have hsl:=λw=>zBj s (a:Int) a rfl ha w
 have hsl2:∀w,(Instr.slice 9 (.string s) (some (.int .i64 (a:Int))) (some (.int .i64 (wordTo s a:Nat))) none).run Tryz.prog w=.ok (.string (s.extract a (wordTo s a))) w:=λw=>by
  rw[run_slice_string_if w _ s _ _ _ _ Tryz.underlying9,iP ⟨Z,Z⟩,iP ⟨Z,Z⟩,Int.toNat_natCast,Int.toNat_natCast]
 have HD:=Hd (λpos=>zQw s a pos ha);have HY:=Hd (λi=>@zTs s i);have HN:=Hd (λi=>@zYa s i);have HZ:=Hd hz;have HE:=Hd hE;clear hz hE;generalize hT0:s.extract a (wordTo s a)=x at *;clear hT0;generalize hE0:wordTo s a=E at *;have HE0:=Hd hE0;clear hE0;generalize s.extract a s.size=t at *;go_enter Tryz.func213,Tryz.ntmps213;go_wp2_with fail;go_loopw [6] (λv wr=>v=.int .i64 (s.size:Nat)/\∃pos,wr.heap[w.heap.size]?=some (.stringIter t pos)/\pos<=t.size/\wordTo s (a+pos)=E/\Below w.heap.size w wr) (λ_ wr=>iterLeft w.heap.size wr)
 case atStart=>exact⟨rfl,0,World.iter_heap _ _ _,Nat.zero_le _,HE0.out,(bR _ _).alloc (nR _) _⟩
 case round =>
  obtain⟨rfl,pos,hk,hpos,hwt,hb⟩:=hrel;have HK:=Hd hk;have HWT:=Hd hwt;have hz1:=yH hk;clear hwt;by_cases hp:pos<t.size
  .have hn:=λty=>Lib.run_next_any_at (P:=Tryz.prog) wr w.heap.size t pos ty hk hp
   have hb2:Below w.heap.size w (wr.iterAt w.heap.size t (pos+(Utf8.decode t pos).2)):=Lib.below_iterAt hb Z _ _;have hk2:=Lib.iterAt_heap wr w.heap.size t pos (pos+(Utf8.decode t pos).2) hk;generalize hW:wr.iterAt w.heap.size t (pos+(Utf8.decode t pos).2)=W at *;have hlt:a+pos<s.size:=by have:=HZ.out;omega
   have hcs:=HD.out pos hp;have HIW:Hid (inWord s (a+pos)=(decide ((rd s (a+pos)).2≠0)&&(letter (rd s (a+pos)).1 || digit (rd s (a+pos)).1))):=Hd (by unfold inWord;rfl);have HYi:=Hd (HY.out (a+pos) hlt);have HNi:=Hd (HN.out (a+pos));have hrl:=zRh s (a+pos);have hrw:=xH s (a+pos);clear hW hk hb;have hx:∃r n,Utf8.decode t pos=(r,n)/\1<=n/\r<=1114111/\(inWord s (a+pos)=(letter (r:Int) || digit (r:Int)))/\(inWord s (a+pos)=true->wordTo s (a+pos+n)=E/\pos+n<=t.size):=by
    rcases hcs with⟨h1,h2⟩|⟨h1,h2⟩
    .refine⟨65533,1,h2,Z,Z,?_,?_⟩
     .rw[HIW.out,h1];have e1:letter ((65533:Nat):Int)=false:=zTr;have e2:digit ((65533:Nat):Int)=false:=zXz;rw[e1,e2];rfl
     .intro h;rw[HIW.out,h1]at h;simp at h
    .refine⟨(rd s (a+pos)).1,(rd s (a+pos)).2,h2,Z,hrl,?_,?_⟩
     .rw[HIW.out];simp[h1]
     .intro h;refine⟨by rw[<-HYi.out h];exact HWT.out,?_⟩;have:=HZ.out;omega
   obtain⟨r,n,hd,hn1,hr,hiw,hnx⟩:=hx;rw[hd]at hn hk2;have HNX:=Hd hnx;have HIW2:=Hd hiw;have HN1:=Hd hn1;clear hcs hrl hrw hd hiw hnx hn1 HIW HYi;simp only[]at hn hk2;have CL:=Hd (λw=>zAf (r:Int) w);have CD:=Hd (λw=>zFq (r:Int) Z w);have hap:IntKind.i64.wrap ((a:Int)+pos)=(a:Int)+pos:=wI Z;cases hl:letter (r:Int)with
   |true =>
    rw[hl]at CL HIW2;have HG:=Hd (HNX.out (by rw[HIW2.out];rfl));clear hl;go_wp2_with fail;refine(CL.out _).mono ?_;rintro e w3 ⟨rfl,hb3⟩;have hk3:=keeps hb3 hk2;have hb4:=zD hb2 hb3;clear hb3 hb2 hk2;go_wp2_with fail;go_roundw
    case rel=>exact⟨rfl,pos+n,hk3,HG.out.2,by rw[<-Nat.add_assoc];exact HG.out.1,hb4⟩
    case measure=>rw[yD hk3,yD HK.out];have:=HG.out.2;have:=HN1.out;omega
   |false =>
    rw[hl]at CL HIW2;cases hd:digit (r:Int)with
    |true =>
     rw[hd]at CD HIW2;have HG:=Hd (HNX.out (by rw[HIW2.out];rfl));clear hl hd;go_wp2_with fail;refine(CL.out _).mono ?_;rintro e w3 ⟨rfl,hb3⟩;have hk3:=keeps hb3 hk2;have hb4:=zD hb2 hb3;clear hb3 hb2 hk2;go_wp2_with fail;refine(CD.out _).mono ?_;rintro e w4 ⟨rfl,rfl⟩;go_wp2_with fail;go_roundw
     case rel=>exact⟨rfl,pos+n,hk3,HG.out.2,by rw[<-Nat.add_assoc];exact HG.out.1,hb4⟩
     case measure=>rw[yD hk3,yD HK.out];have:=HG.out.2;have:=HN1.out;omega
    |false =>
     rw[hd]at CD HIW2;have hEq:E=a+pos:=by rw[<-HWT.out];exact HNi.out (λh=>by have:=h.2;rw[HIW2.out]at this;simp at this)
     clear hl hd;have hsl3:∀w,(Instr.slice 9 (.string s) (some (.int .i64 (a:Int))) (some (.int .i64 ((a:Int)+pos))) none).run Tryz.prog w=.ok (.string x) w:=λw=>by
      have:=hsl2 w
      rwa [hEq,show((a+pos:Nat):Int)=(a:Int)+pos by omega]at this
     have HR:Hid ((E:Int)=(a:Int)+pos):=Hd Z;clear hEq hsl2;go_wp2_with fail;refine(CL.out _).mono ?_;rintro e w3 ⟨rfl,hb3⟩;have HB4:=Hd (zD hb2 hb3);clear hb3 hb2 hk2;go_wp2_with fail;refine(CD.out _).mono ?_;rintro e w4 ⟨rfl,rfl⟩;go_wp2_with fail;refine(CW.out _).mono ?_;rintro e w5 ⟨rfl,rfl⟩;rw[HR.out]at HQ;generalize hwx:word x=b at *;cases b with
     |true =>
      go_wp2_with fail;show Q (.returned (.tuple #[_,_])) _;exact HQ.out _ true rfl HB4.out
     |false =>
      go_wp2_with fail;show Q (.returned (.tuple #[_,_])) _;exact HQ.out _ false rfl HB4.out
  .have hpt:pos=t.size:=Z;have hEs:E=s.size:=by
    have:=HWT.out;have hz:=HZ.out;rw[hpt,hz,show a+(s.size-a)=s.size by omega,HN.out s.size (λh=>Z)]at this;exact this.symm
   have hn:=λty=>Lib.run_next_end_at (P:=Tryz.prog) wr w.heap.size t pos ty hk hp
   clear hk hpt;subst hEs;have HB:=Hd hb;clear hb;go_wp2_with fail;refine(CW.out _).mono ?_;rintro e w5 ⟨rfl,rfl⟩;generalize hwx:word x=b at *;cases b with
   |true =>
    go_wp2_with fail;show Q (.returned (.tuple #[_,_])) _;exact HQ.out _ true rfl HB.out
   |false =>
    go_wp2_with fail;show Q (.returned (.tuple #[_,_])) _;exact HQ.out _ false rfl HB.out
def allSigns:List (List UInt8):=[[60,60,61],[62,62,61],[38,94,61],[46,46,46],
 [60,60],[62,62],[38,94],[43,61],[45,61],[42,61],[47,61],[37,61],[38,61],[124,61],[94,61],[38,38],[124,124],[60,45],[43,43],[45,45],[61,61],[33,61],[60,61],[62,61],[58,61],
 [43],[45],[42],[47],[37],[38],[124],[94],[60],[62],[61],[33],[126],[40],[41],[91],[93],[123],[125],[44],[46],[58]]
def isSign(x:ByteArray):Bool:=allSigns.any λw=>x.toList==w
theorem zJf:∀l m:List UInt8,l.map (λb=>b.toNat)=m.map (λb=>b.toNat)->l=m
 |[],[],_=>rfl
 |[],_::_,h=>by cases h
 |_::_,[],h=>by cases h
 |a::l,b::m,h=>by
  simp only[List.map_cons,List.cons.injEq]at h;rw[UInt8.toNat_inj.1 h.1,zJf l m h.2]
theorem zTt(x:ByteArray):isSign x=true↔zA x∈(allSigns.map λl=>l.map λb=>b.toNat):=by
 unfold isSign;rw[List.any_eq_true,List.mem_map];constructor
 .rintro⟨l,hl,h⟩;refine⟨l,hl,?_⟩;rw[beq_iff_eq,ByteArray.toList_eq]at h;unfold zA;rw[h]
 .rintro⟨l,hl,h⟩;refine⟨l,hl,?_⟩;rw[beq_iff_eq,ByteArray.toList_eq];exact(zJf _ _ h).symm
theorem zQx:(allSigns.map λl=>l.map λb=>b.toNat)=signs3++signs2++signs1:=by decide +kernel
theorem zYc:(∀l∈signs3,l.length=3)/\(∀l∈signs2,l.length=2)/\(∀l∈signs1,l.length=1):=by decide +kernel
theorem zTu(x:ByteArray):isSign x=true↔(zA x∈signs3\/zA x∈signs2\/zA x∈signs1):=by
 rw[zTt,zQx,List.mem_append,List.mem_append,or_assoc]
theorem zYd(s:ByteArray)(n:Nat):zA (s.extract 0 n)=(zA s).take n:=by
 unfold zA;rw[yA,List.drop_zero,Nat.sub_zero,List.map_take]
theorem yDn(s:ByteArray)(n:Nat)(hn:n<=min 3 s.size)(h1:∀m,n<m->m<=min 3 s.size->isSign (s.extract 0 m)=false)(h2:n≠0->isSign (s.extract 0 n)=true):signL (zA s)=n:=by
 obtain⟨l3,l2,l1⟩:=zYc;have hlen:∀k,((zA s).take k).length=min k s.size:=λk=>by rw[List.length_take,zH]
 have g:∀k,isSign (s.extract 0 k)=true↔((zA s).take k∈signs3\/(zA s).take k∈signs2\/(zA s).take k∈signs1):=λk=>by rw[zTu,zYd]
 have k3:signs3.contains ((zA s).take 3)=true->3<=s.size/\isSign (s.extract 0 3)=true:=λh=>by
  have h:=List.contains_iff_mem.1 h;have:=l3 _ h;rw[hlen]at this;exact⟨Z,(g 3).2 (Or.inl h)⟩
 have k2:signs2.contains ((zA s).take 2)=true->2<=s.size/\isSign (s.extract 0 2)=true:=λh=>by
  have h:=List.contains_iff_mem.1 h;have:=l2 _ h;rw[hlen]at this;exact⟨Z,(g 2).2 (Or.inr (Or.inl h))⟩
 have k1:signs1.contains ((zA s).take 1)=true->1<=s.size/\isSign (s.extract 0 1)=true:=λh=>by
  have h:=List.contains_iff_mem.1 h;have:=l1 _ h;rw[hlen]at this;exact⟨Z,(g 1).2 (Or.inr (Or.inr h))⟩
 have back:n≠0->(n=3/\signs3.contains ((zA s).take 3)=true)\/(n=2/\signs2.contains ((zA s).take 2)=true)\/(n=1/\signs1.contains ((zA s).take 1)=true):=λh0=>by
  have h:=(g n).1 (h2 h0);have hl:=hlen n;rcases h with h|h|h
  .have:=l3 _ h;obtain rfl:n=3:=Z;exact Or.inl ⟨rfl,List.contains_iff_mem.2 h⟩
  .have:=l2 _ h;obtain rfl:n=2:=Z;exact Or.inr (Or.inl ⟨rfl,List.contains_iff_mem.2 h⟩)
  .have:=l1 _ h;obtain rfl:n=1:=Z;exact Or.inr (Or.inr ⟨rfl,List.contains_iff_mem.2 h⟩)
 have no:∀k,n<k->k<=3->(k<=s.size/\isSign (s.extract 0 k)=true)->False:=λk hk hk3 h=>by
  have:=h1 k hk Z;rw[h.2]at this;cases this
 unfold signL;by_cases c3:signs3.contains ((zA s).take 3)=true
 .rw[iP c3];rcases Nat.lt_or_ge n 3 with h|h
  .exact(no 3 h (nR _) (k3 c3)).elim
  .omega
 .rw[iN c3];by_cases c2:signs2.contains ((zA s).take 2)=true
  .rw[iP c2];rcases Nat.lt_or_ge n 2 with h|h
   .exact(no 2 h Z (k2 c2)).elim
   .rcases back Z with⟨_,h'⟩|⟨h',_⟩|⟨h',_⟩
    .exact absurd h' c3
    .omega
    .omega
  .rw[iN c2];by_cases c1:signs1.contains ((zA s).take 1)=true
   .rw[iP c1];rcases Nat.lt_or_ge n 1 with h|h
    .exact(no 1 h Z (k1 c1)).elim
    .rcases back Z with⟨_,h'⟩|⟨_,h'⟩|⟨h',_⟩
     .exact absurd h' c3
     .exact absurd h' c2
     .omega
   .rw[iN c1];by_cases h0:n=0
    .exact h0.symm
    .rcases back h0 with⟨_,h'⟩|⟨_,h'⟩|⟨_,h'⟩
     .exact absurd h' c3
     .exact absurd h' c2
     .exact absurd h' c1
theorem zYe(s:ByteArray)(hs:s.size<=2147483647)(w:World) :
  Calls Tryz.prog 216 #[.string s] w λe w'=>e=.returned (.int .i64 (signL (zA s):Nat))/\w=w':=by
 have HQ:Hid (∀n:Nat,signL (zA s)=n->(λ(e:Ending) w'=>e=.returned (.int .i64 (signL (zA s):Nat))/\w=w') (.returned (.int .i64 (n:Nat))) w):=Hd λn h=>⟨by rw[h],rfl⟩
 generalize(λ(e:Ending) w'=>e=.returned (.int .i64 (signL (zA s):Nat))/\w=w')=Q at *;have HS:=Hd (yDn s);go_enter Tryz.func216,Tryz.ntmps216;go_wp2_with fail
 go_step3
 go_wp2_with fail
 go_step3
 go_wp2_with fail
 go_loop [3] (λv=>∃n:Nat,v=.int .i64 n/\n<=min 3 s.size/\∀m,n<m->m<=min 3 s.size->isSign (s.extract 0 m)=false) (λv=>(intOf v).toNat)
 case atStart=>exact⟨min 3 s.size,by congr 1;omega,nR _,λm h1 h2=>Z⟩
 case round =>
  obtain⟨n,rfl,hn,hm⟩:=hrel;have HM:=Hd hm;clear hm;have HN:=Hd hn;by_cases h0:n=0
  .subst h0;have HV:=Hd (HS.out 0 HN.out HM.out (λh=>absurd rfl h));clear hn;go_wp2_with fail;try rw[Exit.noGoto_ret]
   show Q (.returned (.int .i64 (0:Nat))) _;exact HQ.out 0 HV.out
  .have hpos:(0:Int)<n:=Z;have hns:(n:Int)<=s.size:=Z;have hsl:∀w,(Instr.slice 9 (.string s) none (some (.int .i64 (n:Int))) none).run Tryz.prog w=.ok (.string (s.extract 0 n)) w:=λw=>by
    rw[run_slice_string_to_if _ _ s _ _ Tryz.underlying9,iP ⟨Z,Z⟩,Int.toNat_natCast]
   have HY:Hid (isSign (s.extract 0 n)=true->signL (zA s)=n):=Hd λh=>HS.out n HN.out HM.out λ_=>h;have HNo:Hid (isSign (s.extract 0 n)=false->∀m,n-1<m->m<=min 3 s.size->isSign (s.extract 0 m)=false):=Hd λh m h1 h2=>by
    by_cases e:m=n
    .rw[e];exact h
    .exact HM.out m Z h2
   have hnw:IntKind.i64.wrap ((n:Int)-1)=((n-1:Nat):Int):=wI Z;clear hn;generalize s.extract 0 n=x at *;go_wp2_with fail;all_goals first
    | (refine HQ.out n (HY.out ?_)
       unfold isSign allSigns;clear HQ HS HM HN HY HNo hsl hnw h0 hpos hns;simp only[List.any_cons,List.any_nil, *,Bool.true_or,Bool.or_true]
       done)
    | (refine ⟨⟨n-1,rfl,by have:=HN.out;omega,HNo.out ?_⟩,by simp [intOf];omega⟩
       unfold isSign allSigns;clear HQ HS HM HN HY HNo hsl hnw h0 hpos hns;simp only[List.any_cons,List.any_nil, *,Bool.false_or,Bool.or_false]
       done)
    | (exfalso
       clear HQ HS HM HN HY HNo hsl hnw h0 hpos hns;simp_all
       done)
theorem zFw{s:ByteArray}{at':Int}(h:at'<0\/(s.size:Int)<=at'):(decide (0<=at')&&numBegins s at'.toNat)=false:=by
 rw[Bool.eq_false_iff];intro hh;simp only[Bool.and_eq_true,decide_eq_true_eq]at hh;have:=hh.2;unfold numBegins at this;simp only[Bool.and_eq_true,decide_eq_true_eq]at this;omega
theorem zKa(s:ByteArray)(at':Int)(w:World)(hs:s.size<=2147483647) :
  Calls Tryz.prog 245 #[.string s,.int .i64 at'] w λe w'=>e=.returned (.bool (decide (0<=at')&&numBegins s at'.toNat))/\w=w':=by
 have HQ:Hid (∀c,(decide (0<=at')&&numBegins s at'.toNat)=c->(λ(e:Ending) w'=>e=.returned (.bool (decide (0<=at')&&numBegins s at'.toNat))/\w=w') (.returned (.bool c)) w):=Hd λc h=>⟨by rw[h],rfl⟩
 generalize(λ(e:Ending) w'=>e=.returned (.bool (decide (0<=at')&&numBegins s at'.toNat))/\w=w')=Q at *;by_cases hneg:at'<0
 .have HV:=Hd (zFw (s:=s) (Or.inl hneg));go_enter Tryz.func245,Tryz.ntmps245;go_wp2_with fail;show Q (.returned (.bool _)) _;exact HQ.out _ HV.out
 .by_cases hge:(s.size:Int)<=at'
  .have HV:=Hd (zFw (s:=s) (Or.inr hge));go_enter Tryz.func245,Tryz.ntmps245;go_wp2_with fail;show Q (.returned (.bool _)) _;exact HQ.out _ HV.out
  .obtain⟨i,rfl⟩:∃i:Nat,at'=i:=⟨at'.toNat,Z⟩;have hi:i<s.size:=Z;have hi':(i:Int)<s.size:=Z;have hi0:(0:Int)<=i:=Z;have hV:(decide ((0:Int)<=(i:Int))&&numBegins s ((i:Int)).toNat)=(decide (dval (bt s i)<10) || (decide (bt s i=46)&&(decide (i+1<s.size)&&decide (dval (bt s (i+1))<10)))):=by
    rw[Int.toNat_natCast];unfold numBegins;simp[hi]
   rw[hV]at HQ;clear hV hneg hge;have yi:∀h,((s[i]'h).toNat:Int)=(bt s i:Int):=λh=>by rw[zL s i h]
   have CV:=Hd (λw=>kM (bt s i) (yT s i) w);have CV2:=Hd (λw=>kM (bt s (i+1)) (yT s (i+1)) w);have hq1:((i:Int)+1).toNat=i+1:=Z;have hq0:(0:Int)<=(i:Int)+1:=Z;by_cases hx:dval (bt s i)<10
   .have hx':(dval (bt s i):Int)<10:=Z;rw[decide_eq_true hx,Bool.true_or]at HQ;generalize dval (bt s i)=x at *;generalize bt s i=c at *;go_enter Tryz.func245,Tryz.ntmps245;go_wp2_with fail;refine(CV.out _).mono ?_;rintro e w' ⟨rfl,rfl⟩;go_wp2_with fail;show Q (.returned (.bool _)) _;exact HQ.out _ rfl
   .have hx':¬(dval (bt s i):Int)<10:=Z;rw[decide_eq_false hx,Bool.false_or]at HQ;generalize dval (bt s i)=x at *;by_cases hc:bt s i=46
    .rw[decide_eq_true hc,Bool.true_and]at HQ;rw[hc]at yi CV;clear hc;by_cases hl:i+1<s.size
     .have hl':(i:Int)+1<s.size:=Z;rw[decide_eq_true hl,Bool.true_and]at HQ;have yj:∀h,((s[i+1]'h).toNat:Int)=(bt s (i+1):Int):=λh=>by rw[zL s (i+1) h]
      generalize dval (bt s (i+1))=x2 at *;generalize bt s (i+1)=d at *;go_enter Tryz.func245,Tryz.ntmps245;go_wp2_with fail;refine(CV.out _).mono ?_;rintro e w' ⟨rfl,rfl⟩;go_wp2_with fail;refine(CV2.out _).mono ?_;rintro e w' ⟨rfl,rfl⟩;go_wp2_with fail;show Q (.returned (.bool _)) _;exact HQ.out _ (by rw[Bool.eq_iff_iff];simp<;>omega)
     .have hl':¬(i:Int)+1<s.size:=Z;rw[decide_eq_false hl,Bool.false_and]at HQ;go_enter Tryz.func245,Tryz.ntmps245;go_wp2_with fail;refine(CV.out _).mono ?_;rintro e w' ⟨rfl,rfl⟩;go_wp2_with fail;show Q (.returned (.bool _)) _;exact HQ.out _ (by simp;omega)
    .have hc':¬(bt s i:Int)=46:=Z;have hcb:=nb (bt s i) 46 hc;rw[decide_eq_false hc,Bool.false_and]at HQ;clear hc;generalize bt s i=c at *;go_enter Tryz.func245,Tryz.ntmps245;go_wp2_with fail;refine(CV.out _).mono ?_;rintro e w' ⟨rfl,rfl⟩;go_wp2_with fail;show Q (.returned (.bool _)) _;exact HQ.out _ (by simp;omega)
theorem or32:∀d:Nat,d<256->(bits .or .u8 (d:Int) 32=101↔d=101\/d=69)/\(bits .or .u8 (d:Int) 32=112↔d=112\/d=80):=by decide +kernel
def chP(c x a i d:Nat)(hex:Bool):Prop:=c=95\/c=46\/x<10\/(97<=c/\c<=122)\/(65<=c/\c<=90)\/(a<i/\(c=43\/c=45)/\(if hex=true then d=112\/d=80 else d=101\/d=69))
theorem zWq(s:ByteArray)(a i:Nat)(hex:Bool):numCh s a hex i=true↔chP (bt s i) (dval (bt s i)) a i (bt s (i-1)) hex:=by
 unfold numCh chP;cases hex<;>simp[or_assoc,and_assoc]
def p1P(c x:Nat):Prop:=c=95\/c=46\/x<10\/(97<=c/\c<=122)\/(65<=c/\c<=90)
instance (c x:Nat):Decidable (p1P c x):=by unfold p1P;infer_instance
def p2P(c a i d:Nat)(hex:Bool):Prop:=a<i/\(c=43\/c=45)/\(if hex=true then d=112\/d=80 else d=101\/d=69)
instance (c a i d:Nat) (hex:Bool):Decidable (p2P c a i d hex):=by unfold p2P;infer_instance
theorem zMl{c x a i d:Nat}{hex:Bool}:chP c x a i d hex↔p1P c x\/p2P c a i d hex:=by unfold chP p1P p2P;simp only[or_assoc]
theorem yIq{c x a i d:Nat}{hex:Bool}(h:p1P c x):chP c x a i d hex:=zMl.2 (Or.inl h)
theorem yGn{c x a i d:Nat}{hex:Bool}(h:p2P c a i d hex):chP c x a i d hex:=zMl.2 (Or.inr h)
def p1B(c x:Nat):Bool:=decide (p1P c x)
theorem zMm(c x:Nat):p1B c x=true↔p1P c x:=by unfold p1B;exact decide_eq_true_iff
def p2B(c a i d:Nat)(hex:Bool):Bool:=decide (p2P c a i d hex)
theorem zBy(c a i d:Nat)(hex:Bool):p2B c a i d hex=true↔p2P c a i d hex:=by unfold p2B;exact decide_eq_true_iff
theorem leafB(b c:Bool)(h:b=true↔c=true):Value.bool b=Value.bool c:=by
 congr 1
 rw[Bool.eq_iff_iff,h]
def scan5Post(s:ByteArray)(at':Int)(w0:World)(e:Ending)(w':World):Prop :=
 e=.returned (.tuple #[.int .u8 (numScan s at').1,.int .i64 (numScan s at').2.1,.int .i64 (numScan s at').2.2])/\Below w0.heap.size w0 w'
attribute [irreducible] scan5Post
theorem zPb(s:ByteArray)(at':Int)(w:World)(hs:s.size<=2147483647) :
  Calls Tryz.prog 214 #[.string s,.int .i64 at'] w (scan5Post s at' w):=by
 have HQ:Hid (∀w' a b c,numScan s at'=(a,b,c)->Below w.heap.size w w'->scan5Post s at' w (.returned (.tuple #[.int .u8 a,.int .i64 b,.int .i64 c])) w'):=Hd λw' a b c h h2=>by
  unfold scan5Post;rw[h];exact⟨rfl,h2⟩
 have CB:=zKa s at' w hs;generalize scan5Post s at' w=Q at *;cases hb:(decide (0<=at')&&numBegins s at'.toNat)
 .rw[hb]at CB;have HV:Hid (numScan s at'=(0,0,15)):=Hd (by
   unfold numScan;rw[iN];rintro⟨h1,h2⟩;rw[h2]at hb;simp at hb;omega)
  have CBh:=Hd CB;clear CB hb;go_enter Tryz.func214,Tryz.ntmps214;go_wp2_with fail;refine CBh.out.mono ?_;rintro e w1 ⟨rfl,rfl⟩;go_wp2_with fail;show Q (.returned (.tuple #[_,_,_])) _;exact HQ.out _ _ _ _ HV.out (bR _ _)
 .rw[hb]at CB;simp only[Bool.and_eq_true,decide_eq_true_eq]at hb;obtain⟨h0,hbeg⟩:=hb;obtain⟨a,rfl⟩:∃a:Nat,at'=a:=⟨at'.toNat,Z⟩;rw[Int.toNat_natCast]at hbeg;have hend:=zFc hbeg;have ha:a<s.size:=Z;have hV:numScan s a=if kindL (zA (s.extract a (numEnd s a)))≠0 then((kindL (zA (s.extract a (numEnd s a))):Int),(numEnd s a:Int),0)else(0,0,4):=by
   unfold numScan;rw[Int.toNat_natCast,iP ⟨Z,hbeg⟩]
  have HV:=Hd hV;have CBh:=Hd CB;clear CB hbeg hV;have P1:=prefix2 s a 48 120;have P2:=prefix2 s a 48 88;have CX:Hid (∀w,Calls Tryz.prog 205 #[.string (s.extract a s.size),.string ⟨#[48,120]⟩] w λe w'=>e=.returned (.bool (decide (a+1<s.size/\bt s a=48/\bt s (a+1)=120)))/\w'=w):=Hd λw=>by
   have:=Tryz.strings_HasPrefix (s.extract a s.size) ⟨#[48,120]⟩ w;rw[show(⟨#[48,120]⟩:ByteArray).data.toList=[48,120]from rfl,P1]at this;exact this
  have CX2:Hid (∀w,Calls Tryz.prog 205 #[.string (s.extract a s.size),.string ⟨#[48,88]⟩] w λe w'=>e=.returned (.bool (decide (a+1<s.size/\bt s a=48/\bt s (a+1)=88)))/\w'=w):=Hd λw=>by
   have:=Tryz.strings_HasPrefix (s.extract a s.size) ⟨#[48,88]⟩ w;rw[show(⟨#[48,88]⟩:ByteArray).data.toList=[48,88]from rfl,P2]at this;exact this
  have hhex:numHex s a=(decide (a+1<s.size/\bt s a=48/\bt s (a+1)=120) || decide (a+1<s.size/\bt s a=48/\bt s (a+1)=88)):=by
   unfold numHex;rw[Bool.eq_iff_iff];simp;constructor
   .rintro⟨h1,h2,h3⟩;rcases h3 with h3|h3
    .exact Or.inl ⟨h1,h2,h3⟩
    .exact Or.inr ⟨h1,h2,h3⟩
   .rintro(⟨h1,h2,h3⟩|⟨h1,h2,h3⟩)
    .exact⟨h1,h2,Or.inl h3⟩
    .exact⟨h1,h2,Or.inr h3⟩
  have hsl:=λw=>yR s (a:Int) a rfl Z w
  have HEND:Hid (numEnd s a=numTo s a (numHex s a) a):=Hd rfl;clear P1 P2;generalize decide (a+1<s.size/\bt s a=48/\bt s (a+1)=120)=p1 at *;generalize decide (a+1<s.size/\bt s a=48/\bt s (a+1)=88)=p2 at *;generalize numHex s a=hex at *;generalize numEnd s a=E at *;have CK:=Hd (λw=>zFv (s.extract a E) (by rw[ByteArray.size_extract];omega) w);have hsl2:∀w,(Instr.slice 9 (.string s) (some (.int .i64 (a:Int))) (some (.int .i64 (E:Int))) none).run Tryz.prog w=.ok (.string (s.extract a E)) w:=λw=>by
   rw[run_slice_string_if w _ s _ _ _ _ Tryz.underlying9,iP ⟨Z,Z⟩,iP ⟨Z,Z⟩,Int.toNat_natCast,Int.toNat_natCast]
  have hk99:∀c,dval c<=99:=λc=>by unfold dval;split<;>(try split)<;>(try split)<;>omega
  have HK99:=Hd hk99;clear hk99;generalize kindL (zA (s.extract a E))=K at *
  -- THE WAYS
  have hpp:(p1=true/\hex=true)\/(p1=false/\p2=hex):=by
   rw[hhex];cases p1 with
   |true=>exact Or.inl ⟨rfl,rfl⟩
   |false=>exact Or.inr ⟨rfl,rfl⟩
  clear hhex;go_enter Tryz.func214,Tryz.ntmps214;go_wp2_with fail;refine CBh.out.mono ?_;rintro e w1 ⟨rfl,rfl⟩;go_upto_region 3 with(fail);go_cut [7] (λv wx=>v=.bool hex/\wx=w)
  case first =>
   rcases hpp with⟨rfl,rfl⟩|⟨rfl,rfl⟩
   .go_wp2_with fail;refine(CX.out _).mono ?_;rintro e w2 ⟨rfl,rfl⟩;go_wp2_with fail;go_meet;exact⟨rfl,rfl⟩
   .go_wp2_with fail;refine(CX.out _).mono ?_;rintro e w2 ⟨rfl,rfl⟩;go_wp2_with fail;refine(CX2.out _).mono ?_;rintro e w2 ⟨rfl,rfl⟩;go_wp2_with fail;go_meet;exact⟨rfl,rfl⟩
  case rest =>
   obtain⟨rfl,rfl⟩:=hcut;go_wp2_with fail
   go_loop [8] (λv=>∃i:Nat,v=.int .i64 i/\a<=i/\i<=s.size/\numTo s a hex i=E) (λv=>s.size-(intOf v).toNat)
   case atStart=>exact⟨a,rfl,nR _,Z,HEND.out.symm⟩
   case round =>
    obtain⟨i,rfl,hai,hi,hE⟩:=hrel;have HE:=Hd hE;clear hE;have hi0:(0:Int)<=i:=Z;by_cases hlt:i<s.size
    .have hlt':(i:Int)<s.size:=Z;have yi:∀h,((s[i]'h).toNat:Int)=(bt s i:Int):=λh=>by rw[zL s i h]
     have yj:a<i->∀h,((s[i-1]'h).toNat:Int)=(bt s (i-1):Int):=λ_ h=>by rw[zL s (i-1) h]
     have CV:=Hd (λw=>kM (bt s i) (yT s i) w);have HO:=Hd (or32 (bt s (i-1)) (yT s (i-1)));have hwi:a<i->((i:Int)-1).toNat=i-1:=λ_=>by omega
     have HX:=Hd (HK99.out (bt s i));have HYES:=Hd (@kK s a i hex hlt);have HNO:=Hd (@fX s a i hex);have HCH:=Hd (zWq s a i hex);generalize dval (bt s i)=x at *;generalize bt s i=c at *;generalize bt s (i-1)=d at *;go_upto_region 8 with(fail);go_cut [9,62] (λv9 v wx=>v9=.int .u8 (c:Int)/\v=.bool (p1B c x)/\wx=wc)
     case first =>
      clear hsl hsl2 hend hai hi yj hwi;go_wp2_with (go_at_call 170;refine (CV.out _).mono ?_;rintro e w3 ⟨rfl,rfl⟩);all_goals (
       go_meet;refine⟨by first|rfl|(congr 1;omega),leafB _ _ ?_,rfl⟩;rw[zMm];unfold p1P;first|omega|(simp;omega))
     case rest =>
      obtain⟨rfl,rfl,rfl⟩:=hcut;by_cases h1:p1P c x
      .have hb1:p1B c x=true:=(zMm c x).2 h1;have HN:Hid (numTo s a hex (i+1)=E):=Hd (by rw[<-HYES.out (HCH.out.2 (yIq h1))];exact HE.out);clear h1;rw[hb1];clear hb1;go_wp2_with fail
       go_round
       case rel=>exact⟨i+1,by go_num,Z,Z,HN.out⟩
       case measure=>simp[intOf];omega
      .have hb1:p1B c x=false:=by rw[Bool.eq_false_iff];exactλh=>h1 ((zMm c x).1 h)
       have H1:=Hd h1;clear h1;rw[hb1];clear hb1;obtain⟨o,ho⟩:∃o:Int,o=if a<i then bits .or .u8 (d:Int) 32 else 0:=⟨_,rfl⟩
       have HOO:=Hd ho;clear ho;go_upto_region 9 with(fail);by_cases hlast:a<i
       .have hlast':(a:Int)<i:=Z;have g1:=hwi hlast;have yj2:=yj hlast;have g2:(0:Int)<=(i:Int)-1:=Z;have g3:(i:Int)-1<s.size:=Z;have hoo:bits .or .u8 (d:Int) 32=o:=by rw[HOO.out,iP hlast]
        clear hwi yj;go_upto_region 12 with(fail);go_cut [7,9,10,91] (λv7 v9 v10 v wx=>v7=.bool hex/\v9=.int .u8 (c:Int)/\v10=.int .u8 o/\v=.bool (p2B c a i d hex)/\wx=wc)
        case first =>
         clear hsl hsl2 hend hai hi;go_wp2_with fail;all_goals (
          go_meet;refine⟨by first|rfl|(congr 1;done)|(simp_all;done),by first|rfl|(congr 1;omega),by first|rfl|(congr 1;omega),leafB _ _ ?_,rfl⟩;have h1:=HO.out;have h2:=HOO.out;rw[zBy];unfold p2P;cases hex<;>by_cases hq:a<i<;>simp only[iP,iN,hq,if_true,if_false,Bool.false_eq_true,true_and,false_and]at h2 ⊢<;>(first|omega|(simp;omega)|(simp_all;omega)|simp_all))
        case rest =>
         obtain⟨rfl,rfl,rfl,rfl,rfl⟩:=hcut;by_cases h2:p2P c a i d hex
         .have hb2:p2B c a i d hex=true:=(zBy c a i d hex).2 h2;have HN:Hid (numTo s a hex (i+1)=E):=Hd (by rw[<-HYES.out (HCH.out.2 (yGn h2))];exact HE.out);clear h2;rw[hb2];clear hb2;go_wp2_with fail
          go_round
          case rel=>exact⟨i+1,by go_num,Z,Z,HN.out⟩
          case measure=>simp[intOf];omega
         .have hb2:p2B c a i d hex=false:=by rw[Bool.eq_false_iff];exactλh=>h2 ((zBy c a i d hex).1 h)
          have hEi:E=i:=by rw[<-HE.out,HNO.out (λh=>(zMl.1 (HCH.out.1 h.2)).elim H1.out h2)]
          clear HE HYES HNO HCH h2;rw[hb2];clear hb2;subst hEi;go_wp2_with fail;refine(CK.out _).mono ?_;rintro e w2 ⟨rfl,hb2⟩;have HB2:=Hd hb2;clear hb2 hsl hsl2 hend HEND hai hi hi0;try clear hlt
          try clear hlt'
          by_cases hK:K=0
          .have hKb:((K:Int)==0)=true:=by simp;omega
           have HV2:Hid (numScan s a=(0,0,4)):=Hd (by rw[HV.out,iN Z]);clear HV hK;go_wp2_with fail;show Q (.returned (.tuple #[_,_,_])) _;exact HQ.out _ _ _ _ HV2.out HB2.out
          .have hKb:=nb K 0 hK;have hKb2:((K:Int)==0)=false:=hKb;have hKn:¬(K:Int)=0:=Z;have HV2:Hid (numScan s a=((K:Int),(E:Int),0)):=Hd (by rw[HV.out,iP hK]);clear HV hK hKb;go_wp2_with fail;show Q (.returned (.tuple #[_,_,_])) _;exact HQ.out _ _ _ _ HV2.out HB2.out
       .have hlast':¬(a:Int)<i:=Z;have hoo:o=0:=by rw[HOO.out,iN hlast]
        clear hwi yj;go_upto_region 12 with(fail);go_cut [7,9,10,91] (λv7 v9 v10 v wx=>v7=.bool hex/\v9=.int .u8 (c:Int)/\v10=.int .u8 o/\v=.bool (p2B c a i d hex)/\wx=wc)
        case first =>
         clear hsl hsl2 hend hai hi;go_wp2_with fail;all_goals (
          go_meet;refine⟨by first|rfl|(congr 1;done)|(simp_all;done),by first|rfl|(congr 1;omega),by first|rfl|(congr 1;omega),leafB _ _ ?_,rfl⟩;have h1:=HO.out;have h2:=HOO.out;rw[zBy];unfold p2P;cases hex<;>by_cases hq:a<i<;>simp only[iP,iN,hq,if_true,if_false,Bool.false_eq_true,true_and,false_and]at h2 ⊢<;>(first|omega|(simp;omega)|(simp_all;omega)|simp_all))
        case rest =>
         obtain⟨rfl,rfl,rfl,rfl,rfl⟩:=hcut;by_cases h2:p2P c a i d hex
         .have hb2:p2B c a i d hex=true:=(zBy c a i d hex).2 h2;have HN:Hid (numTo s a hex (i+1)=E):=Hd (by rw[<-HYES.out (HCH.out.2 (yGn h2))];exact HE.out);clear h2;rw[hb2];clear hb2;go_wp2_with fail
          go_round
          case rel=>exact⟨i+1,by go_num,Z,Z,HN.out⟩
          case measure=>simp[intOf];omega
         .have hb2:p2B c a i d hex=false:=by rw[Bool.eq_false_iff];exactλh=>h2 ((zBy c a i d hex).1 h)
          have hEi:E=i:=by rw[<-HE.out,HNO.out (λh=>(zMl.1 (HCH.out.1 h.2)).elim H1.out h2)]
          clear HE HYES HNO HCH h2;rw[hb2];clear hb2;subst hEi;go_wp2_with fail;refine(CK.out _).mono ?_;rintro e w2 ⟨rfl,hb2⟩;have HB2:=Hd hb2;clear hb2 hsl hsl2 hend HEND hai hi hi0;try clear hlt
          try clear hlt'
          by_cases hK:K=0
          .have hKb:((K:Int)==0)=true:=by simp;omega
           have HV2:Hid (numScan s a=(0,0,4)):=Hd (by rw[HV.out,iN Z]);clear HV hK;go_wp2_with fail;show Q (.returned (.tuple #[_,_,_])) _;exact HQ.out _ _ _ _ HV2.out HB2.out
          .have hKb:=nb K 0 hK;have hKb2:((K:Int)==0)=false:=hKb;have hKn:¬(K:Int)=0:=Z;have HV2:Hid (numScan s a=((K:Int),(E:Int),0)):=Hd (by rw[HV.out,iP hK]);clear HV hK hKb;go_wp2_with fail;show Q (.returned (.tuple #[_,_,_])) _;exact HQ.out _ _ _ _ HV2.out HB2.out
    .have hlt':¬(i:Int)<s.size:=Z;have hEi:E=i:=by rw[<-HE.out,fX (λh=>hlt h.1)]
     clear HE;subst hEi;go_wp2_with fail;refine(CK.out _).mono ?_;rintro e w2 ⟨rfl,hb2⟩;have HB2:=Hd hb2;clear hb2 hsl hsl2 hend HEND hai hi hi0;try clear hlt
     try clear hlt'
     by_cases hK:K=0
     .have hKb:((K:Int)==0)=true:=by simp;omega
      have HV2:Hid (numScan s a=(0,0,4)):=Hd (by rw[HV.out,iN Z]);clear HV hK;go_wp2_with fail;show Q (.returned (.tuple #[_,_,_])) _;exact HQ.out _ _ _ _ HV2.out HB2.out
     .have hKb:=nb K 0 hK;have hKb2:((K:Int)==0)=false:=hKb;have hKn:¬(K:Int)=0:=Z;have HV2:Hid (numScan s a=((K:Int),(E:Int),0)):=Hd (by rw[HV.out,iP hK]);clear HV hK hKb;go_wp2_with fail;show Q (.returned (.tuple #[_,_,_])) _;exact HQ.out _ _ _ _ HV2.out HB2.out
end Go.Proofs.YtfpjdpdmgceciaaGreatDoor
