/- Layer 6: the reference's Value, walked for safety alone: it answers some text and some error. -/
import Derived.Test.YtfpjdpdmgceciaaGreatDoorCoreTg
import Derived.Test.YtfpjdpdmgceciaaGreatDoorQuotedPTg
import Derived.Test.YtfpjdpdmgceciaaGreatDoorRefBaseTg
import Derived.Test.YtfpjdpdmgceciaaGreatDoorStillTg
import Derived.Laws.Strings3
import Derived.Laws.DeepStrings4
import Derived.Test.YtfpjdpdmgceciaaGreatDoorQuoted5Tg
import Derived.Test.YtfpjdpdmgceciaaGreatDoorQuoted6Tg
import Derived.Test.YtfpjdpdmgceciaaGreatDoorScanPTg
namespace Go.Proofs.YtfpjdpdmgceciaaGreatDoor
set_option maxRecDepth 100000
set_option maxHeartbeats 32000000
set_option linter.all false
open Go.RowKit
attribute [local irreducible] wpStill
attribute [local irreducible] Calls
def RqN(w:World)(e:Ending)(w':World):Prop:=∃n:Int,e=.returned (.int .i64 n)/\w=w'
theorem zTe(s:ByteArray)(i count:Nat)(bs:Int)(hcnt:count<=8)(hi:i<=s.size)(hs:s.size<=140737488351232)(w:World):Calls Tryz.prog 197 #[.string s,.int .i64 i,.int .i64 count,.int .i64 bs] w (RqN w):=by
 have HQ:Hid (∀n,RqN w (.returned (.int .i64 n)) w):=Hd λn=>⟨n,rfl,rfl⟩
 generalize RqN w=Q at HQ ⊢;have hw0:IntKind.i64.wrap ((s.size:Int)-i)=(s.size:Int)-i:=wI Z;have HB:=Hd zQn;go_enter Tryz.func197,Tryz.ntmps197;by_cases hsh:s.size<i+count
 .have hsh':(s.size:Int)-i<count:=Z;go_wp2_with fail;exact HQ.out _
 .have hsh':(count:Int)<=(s.size:Int)-i:=Z;go_wp2_with fail;go_loopw [9,10] (λn k wr=>∃(kk:Nat) (nn:Int),kk<=count/\n=.int .i64 nn/\k=.int .i64 kk/\wr=w) (λ_ k _=>count-(intOf k).toNat)
  case atStart=>exact⟨0,0,Nat.zero_le _,rfl,rfl,rfl⟩
  case round =>
   obtain⟨k,n,hk,rfl,rfl,rfl⟩:=hrel;by_cases hlt:k<count
   .have hkl:(k:Int)<count:=Z;have hp:i+k<s.size:=Z;have hp1:(i:Int)+k<s.size:=Z;have hp0:(0:Int)<=(i:Int)+k:=Z;have hwp:IntKind.i64.wrap ((i:Int)+k)=(i:Int)+k:=wI Z;have hpn:((i:Int)+k).toNat=i+k:=Z;have hbt:=zL s (i+k) hp;have hbl:=yT s (i+k);have C:=λw=>zQn (bt s (i+k)) w
    have hw8:IntKind.i64.wrap (bt s (i+k):Int)=(bt s (i+k):Int):=wI Z;have hxx:∀h,((s[i+k]'h).toNat:Int)=(bt s (i+k):Int):=λh=>by rw[zL s (i+k) h]
    generalize base (bt s (i+k))=x at *;generalize bt s (i+k)=c at *;have HC:=Hd C;clear C;go_wp2_with fail;refine(HC.out _).mono ?_;rintro e w' ⟨rfl,rfl⟩;by_cases g0:x<0
    .go_wp2_with fail;exact HQ.out _
    .by_cases g1:bs<=x
     .go_wp2_with fail;exact HQ.out _
     .generalize n*bs=m at *;go_wp2_with fail;exact⟨⟨k+1,_,Z,rfl,by go_num,by first|trivial|rfl⟩,by simp[intOf];try omega⟩
   .have hkl:(count:Int)<=k:=Z;go_wp2_with fail;exact HQ.out _
def RqT(w:World)(e:Ending)(w':World):Prop:=∃t:ByteArray,e=.returned (.string t)/\t.size<=8/\Below w.heap.size w w'
theorem zNp(r:Int):(form r).size<=8:=by
 unfold form;rw[strOfNums_size];unfold formZ
 repeat' split
 all_goals simp
theorem zXu(n:Int)(mark:Nat)(hm:mark=34\/mark=39)(w:World):Calls Tryz.prog 198 #[.int .i64 n,.int .u8 mark] w (RqT w):=by
 have HQ:Hid (∀t w',t.size<=8->Below w.heap.size w w'->RqT w (.returned (.string t)) w'):=Hd λt w' h hb=>⟨t,rfl,h,hb⟩
 generalize RqT w=Q at HQ ⊢;rcases hm with rfl|rfl
 .obtain⟨b,hw⟩:∃b,IntKind.u8.wrap n=b:=⟨_,rfl⟩;have c1:=gJ w _ [b] 1 1 rfl rfl;simp only[List.map_cons,List.map_nil]at c1;have HX:=Hd (HQ.out (strOfNums [b]) _ (by rw[strOfNums_size];simp) ((bR _ _).alloc (nR w.heap.size) (.cells #[.int .u8 b] 5)));go_enter Tryz.func198,Tryz.ntmps198;go_wp2_with fail;exact HX.out
 .have CF:=Hd (gU n);go_enter Tryz.func198,Tryz.ntmps198;go_wp2_with fail;refine(CF.out _).mono ?_;rintro e w' ⟨rfl,hb⟩;have HX:=Hd (HQ.out _ _ (zNp n) hb);clear hb;go_wp2_with fail;exact HX.out
theorem zGd(tmps:Array Value)(w:World)(g:Nat)(x y:Value)(hp:tmps.getD 6 undef=.pointer (some ⟨g,0,none⟩))(h0:w.heap[g]?=some (.cells #[x,y] 141 (0,0))) :
  (results Tryz.f159 tmps).run Tryz.prog w=.ok (.agg #[x,y]) w :=
 results_cell_row rfl tmps w g 141 #[x,y] (0,0) _ hp h0 Tryz.underlying141 rfl Oa
theorem zEb(tmps:Array Value)(w:World)(g:Nat)(x y:Value)(hp:tmps.getD 6 undef=.pointer (some ⟨g,0,none⟩))(h0:w.heap[g]?=some (.cells #[x,y] 141 (0,0))) :
  (results Tryz.f117 tmps).run Tryz.prog w=.ok (.agg #[x,y]) w :=
 results_cell_row rfl tmps w g 141 #[x,y] (0,0) _ hp h0 Tryz.underlying141 rfl Oa
structure IB(w W:World)(g:Nat):Prop where
 le:w.heap.size<=g
 below:Below w.heap.size w W
 row:∃x y,W.heap[g]?=some (.cells #[x,y] 141 (0,0))
theorem IB.lt{w W:World}{g:Nat}(h:IB w W g):g<W.heap.size:=by obtain⟨_,_,_,_,h3⟩:=h;exact yH h3
theorem IB.keep{w W W':World}{g:Nat}(h:IB w W g)(hb:Below W.heap.size W W'):IB w W' g:=by
 obtain⟨h1,h2,x,y,h3⟩:=h;exact⟨h1,zD h2 hb,x,y,keeps hb h3⟩
theorem IB.alloc{w W:World}{g:Nat}(h:IB w W g)(o:Obj):IB w (W.alloc o) g:=h.keep ((bR _ _).alloc (nR _) _)
theorem IB.c{w W:World}{g:Nat}(h:IB w W g):∃x y,W.cell? ⟨g,0,none⟩=some x/\W.cell? ⟨g,1,none⟩=some y:=by
 obtain⟨_,_,x,y,h3⟩:=h;exact⟨x,y,by simp[World.cell?,h3],by simp[World.cell?,h3]⟩
theorem IB.fz{w W:World}{g:Nat}(h:IB w W g)(k:Nat):W.frozen? ⟨g,k,none⟩=false:=by
 obtain⟨_,_,x,y,h3⟩:=h;simp[World.frozen?,h3]
theorem IB.fin{w W:World}{g:Nat}(h:IB w W g)(x y:Value):((W.setCell ⟨g,0,none⟩ x).setCell ⟨g,1,none⟩ y).heap[g]?=some (.cells #[x,y] 141 (0,0))/\Below w.heap.size w ((W.setCell ⟨g,0,none⟩ x).setCell ⟨g,1,none⟩ y):=by
 obtain⟨h1,h2,x0,y0,h3⟩:=h;have h4:(W.setCell ⟨g,0,none⟩ x).heap[g]?=some (.cells #[x,y0] 141 (0,0)):=by rw[heap_setCell_same W g 0 _ _ _ h3];rfl
 refine⟨?_,(h2.setCell (by exact h1) _).setCell (by exact h1) _⟩;rw[heap_setCell_same _ g 1 _ _ _ h4];rfl
def RqI(w:World)(e:Ending)(w':World):Prop:=∃(n:Nat) (t:ByteArray),e=.returned (.agg #[.int .i64 (n:Int),.string t])/\n<=10/\t.size<=8/\Below w.heap.size w w'
abbrev escT:ByteArray:=⟨#[97,98,102,110,114,116,118,92]⟩
theorem zTf(s:ByteArray)(i mark:Nat)(hm:mark=34\/mark=39)(hi:i<s.size)(hs:s.size<=140737488351232)(w:World):Calls Tryz.prog 159 #[.string s,.int .i64 i,.int .u8 mark] w (RqI w):=by
 have HQ:Hid (∀(n:Nat) t w',n<=10->t.size<=8->Below w.heap.size w w'->RqI w (.returned (.agg #[.int .i64 (n:Int),.string t])) w'):=Hd λn t w' h h2 hb=>⟨n,t,rfl,h,h2,hb⟩
 generalize RqI w=Q at HQ ⊢;have hw1:IntKind.i64.wrap ((i:Int)+1)=(i:Int)+1:=wI Z;have hw2:IntKind.i64.wrap ((i:Int)+2)=((i+2:Nat):Int):=wI Z;go_enter Tryz.func159,Tryz.ntmps159;by_cases hsh:s.size<=i+1
 .have hsh':(s.size:Int)<=(i:Int)+1:=Z;go_wp2_with fail;refine bodyPost_ret (zGd _ _ w.heap.size _ _ rfl (heap_alloc_new _ _)) rfl ?_;exact HQ.out 0 _ _ Z V ((bR _ _).alloc (nR _) _)
 .have hsh':¬(s.size:Int)<=(i:Int)+1:=Z;have hp:i+1<s.size:=Z;have hp1:(i:Int)+1<s.size:=Z;have hp0:(0:Int)<=(i:Int)+1:=Z;have hxx:∀h,((s[i+1]'h).toNat:Int)=(bt s (i+1):Int):=λh=>by rw[zL s (i+1) h]
  have HF:Hid (∀(tm:Array Value) W (n:Nat) (y:ByteArray),IB w W w.heap.size->n<=10->y.size<=8->tm.getD 6 undef=.pointer (some ⟨w.heap.size,0,none⟩)->bodyPost Tryz.prog Tryz.f159 Q .ret ⟨tm,[]⟩ ((W.setCell ⟨w.heap.size,0,none⟩ (.int .i64 (n:Int))).setCell ⟨w.heap.size,1,none⟩ (.string y))) :=
   Hd λtm W n y hib hn hy ht=>bodyPost_ret (zGd tm _ _ _ _ ht (hib.fin _ _).1) rfl (HQ.out n y _ hn hy (hib.fin _ _).2)
  generalize bt s (i+1)=c at *;go_wp2_with fail;go_loopw [10] (λk wr=>∃(kk:Nat),kk<=8/\k=.int .i64 kk/\wr=(w.alloc (.cells #[.int .i64 0,.string ⟨#[]⟩] 141)).alloc (.cells #[.int .u8 7,.int .u8 8,.int .u8 12,.int .u8 10,.int .u8 13,.int .u8 9,.int .u8 11,.int .u8 92] 5)) (λk _=>8-(intOf k).toNat)
  case atStart=>exact⟨0,Nat.zero_le _,rfl,rfl⟩
  case round =>
   obtain⟨k,hk,rfl,hwr⟩:=hrel;have hib:IB w wr w.heap.size:=by
    rw[hwr];refine IB.alloc ⟨nR _,(bR _ _).alloc (nR _) _,_,_,heap_alloc_new _ _⟩ _
   have HIB:=Hd hib;obtain⟨cx,cy,cg0,cg1⟩:=hib.c;have zg0:=hib.fz 0;have zg1:=hib.fz 1;have cga0:∀o:Obj,(wr.alloc o).cell? ⟨w.heap.size,0,none⟩=some cx:=λo=>by rw[<-cg0];exact World.cell?_of_block (Below.heap_alloc _ _ _ hib.lt)
   have cga1:∀o:Obj,(wr.alloc o).cell? ⟨w.heap.size,1,none⟩=some cy:=λo=>by rw[<-cg1];exact World.cell?_of_block (Below.heap_alloc _ _ _ hib.lt)
   have zga0:∀o:Obj,(wr.alloc o).frozen? ⟨w.heap.size,0,none⟩=false:=λo=>(hib.alloc o).fz 0
   have zga1:∀o:Obj,(wr.alloc o).frozen? ⟨w.heap.size,1,none⟩=false:=λo=>(hib.alloc o).fz 1
   clear hib;by_cases hlt:k<8
   .have hk8:(k:Int)<8:=Z;have hk0:(0:Int)<=k:=Z;obtain⟨z,cs⟩:∃z:Int,wr.cell? ⟨w.heap.size+1,k,none⟩=some (.int .u8 z):=by
     rw[hwr,World.cell?_alloc_at _ _ _ _ Ob];match k,hlt with
     |0,_|1,_|2,_|3,_|4,_|5,_|6,_|7,_=>exact⟨_,rfl⟩
    have HWR:=Hd hwr;have hnm:=zL escT k hlt;clear hwr;generalize bt escT k=y at *;have hcy:((y:Int)==(c:Int))=false\/y=c:=by rw[bE];omega
    rcases hcy with hcy|rfl
    .go_wp2_with fail;refine⟨?_,(by simp[intOf];try omega)⟩;exact⟨k+1,Z,by go_num,HWR.out⟩
    .have c1:=gJ wr _ [z] 1 1 rfl rfl;simp only[List.map_cons,List.map_nil]at c1;have HI2:=Hd (HIB.out.alloc (.cells #[.int .u8 z] 5));go_wp2_with fail;exact HF.out _ _ 2 _ HI2.out Z (by rw[strOfNums_size];simp) rfl
   .obtain rfl:k=8:=Z;clear hwr;have HFI:=Hd (λW' (hb:Below wr.heap.size wr W')=>HIB.out.keep hb);have CN:=Hd (λ(j count:Nat)(bs:Int)(h1:count<=8)(h2:j<=s.size)=>zTe s j count bs h1 h2 hs wr);have CS:=Hd (λn=>zXu n mark hm wr);by_cases hcm:c=mark
    .have hcm':(c:Int)=mark:=Z;have c1:=gJ wr _ [(c:Int)] 1 1 rfl rfl;simp only[List.map_cons,List.map_nil]at c1;rw[hcm']at c1;have HI2:=Hd (HIB.out.alloc (.cells #[.int .u8 (mark:Int)] 5));go_wp2_with fail;exact HF.out _ _ 2 _ HI2.out Z (by rw[strOfNums_size];simp) rfl
    .have hcm':¬(c:Int)=mark:=Z;have hcs:c=120\/c=85\/c=117\/((¬(c:Int)=120/\((c:Int)==120)=false)/\(¬(c:Int)=85/\((c:Int)==85)=false)/\¬(c:Int)=117/\((c:Int)==117)=false):=by
      simp only[bE,ne_eq];omega
     rcases hcs with rfl|rfl|rfl|⟨⟨n1,m1⟩,⟨n2,m2⟩,n3,m3⟩
     .have CX:=Hd (CN.out (i+2) 2 16 Z Z);go_wp2_with fail;refine CX.out.mono ?_;rintro e w' ⟨n,rfl,rfl⟩;by_cases hn:n<0
      .go_wp2_with fail;exact HF.out _ _ 0 _ HIB.out Z V rfl
      .go_wp2_with fail;refine(CS.out n).mono ?_;rintro e w2 ⟨y,rfl,hy,hb2⟩;have hib2:=HFI.out _ hb2;obtain⟨dx,dy,dg0,dg1⟩:=hib2.c;have dz0:=hib2.fz 0;have dz1:=hib2.fz 1;have HIB2:=Hd hib2;clear hib2 hb2;go_wp2_with fail;exact HF.out _ _ 4 _ HIB2.out Z hy rfl
     .have CX:=Hd (CN.out (i+2) 8 16 Z Z);go_wp2_with fail;refine CX.out.mono ?_;rintro e w' ⟨n,rfl,rfl⟩;by_cases hn:n<0
      .go_wp2_with fail;exact HF.out _ _ 0 _ HIB.out Z V rfl
      .have CM:=Hd (zHb n wr);have CG:=Hd (gU n wr);have HFS:=Hd (zNp n);generalize may n=mm at *;generalize form n=y at *;go_wp2_with fail;refine CM.out.mono ?_;rintro e w' ⟨rfl,rfl⟩;cases mm with
       |false =>
        go_wp2_with fail;exact HF.out _ _ 0 _ HIB.out Z V rfl
       |true =>
       go_wp2_with fail;refine CG.out.mono ?_;rintro e w2 ⟨rfl,hb2⟩;have hib2:=HFI.out _ hb2;obtain⟨dx,dy,dg0,dg1⟩:=hib2.c;have dz0:=hib2.fz 0;have dz1:=hib2.fz 1;have HIB2:=Hd hib2;clear hib2 hb2;go_wp2_with fail;exact HF.out _ _ 10 _ HIB2.out Z HFS.out rfl
     .have CX:=Hd (CN.out (i+2) 4 16 Z Z);go_wp2_with fail;refine CX.out.mono ?_;rintro e w' ⟨n,rfl,rfl⟩;by_cases hn:n<0
      .go_wp2_with fail;exact HF.out _ _ 0 _ HIB.out Z V rfl
      .have CM:=Hd (zHb n wr);have CG:=Hd (gU n wr);have HFS:=Hd (zNp n);generalize may n=mm at *;generalize form n=y at *;go_wp2_with fail;refine CM.out.mono ?_;rintro e w' ⟨rfl,rfl⟩;cases mm with
       |false =>
        go_wp2_with fail;exact HF.out _ _ 0 _ HIB.out Z V rfl
       |true =>
       go_wp2_with fail;refine CG.out.mono ?_;rintro e w2 ⟨rfl,hb2⟩;have hib2:=HFI.out _ hb2;obtain⟨dx,dy,dg0,dg1⟩:=hib2.c;have dz0:=hib2.fz 0;have dz1:=hib2.fz 1;have HIB2:=Hd hib2;clear hib2 hb2;go_wp2_with fail;exact HF.out _ _ 6 _ HIB2.out Z HFS.out rfl
     .have CX:=Hd (CN.out (i+1) 3 8 Z Z);go_wp2_with fail;refine CX.out.mono ?_;rintro e w' ⟨n,rfl,rfl⟩;by_cases hn:n<0
      .go_wp2_with fail;exact HF.out _ _ 0 _ HIB.out Z V rfl
      .by_cases h255:255<n
       .go_wp2_with fail;exact HF.out _ _ 0 _ HIB.out Z V rfl
       .go_wp2_with fail;refine(CS.out n).mono ?_;rintro e w2 ⟨y,rfl,hy,hb2⟩;have hib2:=HFI.out _ hb2;obtain⟨dx,dy,dg0,dg1⟩:=hib2.c;have dz0:=hib2.fz 0;have dz1:=hib2.fz 1;have HIB2:=Hd hib2;clear hib2 hb2;go_wp2_with fail;exact HF.out _ _ 4 _ HIB2.out Z hy rfl
theorem yCn(s:ByteArray)(i mark:Nat)(hm:mark=34\/mark=39)(hi:i<s.size)(hs:s.size<=140737488351232)(w:World):Calls Tryz.prog 117 #[.string s,.int .i64 i,.int .u8 mark] w (RqI w):=by
 have HQ:Hid (∀(n:Nat) t w',n<=10->t.size<=8->Below w.heap.size w w'->RqI w (.returned (.agg #[.int .i64 (n:Int),.string t])) w'):=Hd λn t w' h h2 hb=>⟨n,t,rfl,h,h2,hb⟩
 generalize RqI w=Q at HQ ⊢;have HF:Hid (∀(tm:Array Value) W (n:Nat) (y:ByteArray),IB w W w.heap.size->n<=10->y.size<=8->tm.getD 6 undef=.pointer (some ⟨w.heap.size,0,none⟩)->bodyPost Tryz.prog Tryz.f117 Q .ret ⟨tm,[]⟩ ((W.setCell ⟨w.heap.size,0,none⟩ (.int .i64 (n:Int))).setCell ⟨w.heap.size,1,none⟩ (.string y))) :=
  Hd λtm W n y hib hn hy ht=>bodyPost_ret (zEb tm _ _ _ _ ht (hib.fin _ _).1) rfl (HQ.out n y _ hn hy (hib.fin _ _).2)
 have HF0:Hid (∀(tm:Array Value)(n:Nat)(y:ByteArray),n<=10->y.size<=8->tm.getD 6 undef=.pointer (some ⟨w.heap.size,0,none⟩)->bodyPost Tryz.prog Tryz.f117 Q .ret ⟨tm,[]⟩ (w.alloc (.cells #[.int .i64 (n:Int),.string y] 141))) :=
  Hd λtm n y hn hy ht=>bodyPost_ret (zEb tm _ w.heap.size _ _ ht (heap_alloc_new _ _)) rfl (HQ.out n y _ hn hy ((bR _ _).alloc (nR _) _))
 have hi':(i:Int)<s.size:=Z;have hi0:(0:Int)<=i:=Z;have hxx:∀h,((s[i]'h).toNat:Int)=(bt s i:Int):=λh=>by rw[zL s i h]
 generalize bt s i=c at *;have HIB:=Hd (show IB w (w.alloc (.cells #[.int .i64 0,.string ⟨#[]⟩] 141)) w.heap.size from⟨nR _,(bR _ _).alloc (nR _) _,_,_,heap_alloc_new _ _⟩);go_enter Tryz.func117,Tryz.ntmps117;by_cases h92:c=92
 .have h92':(c:Int)=92:=Z;have CE:=Hd (zTf s i mark hm hi hs (w.alloc (.cells #[.int .i64 0,.string ⟨#[]⟩] 141)));go_wp2_with fail;refine CE.out.mono ?_;rintro e w2 ⟨n,y,rfl,hn,hy,hb2⟩;have hib2:=HIB.out.keep hb2;obtain⟨dx,dy,dg0,dg1⟩:=hib2.c;have dz0:=hib2.fz 0;have dz1:=hib2.fz 1;have HIB2:=Hd hib2;clear hib2 hb2;go_wp2_with fail;exact HF.out _ _ n y HIB2.out hn hy rfl
 .have h92':¬(c:Int)=92:=Z;by_cases h10:c=10
  .have h10':(c:Int)=10:=Z;go_wp2_with fail;exact HF0.out _ 0 _ Z V rfl
  .have h10':¬(c:Int)=10:=Z;rcases hm with rfl|rfl
   .have hsl:∀w,(Instr.slice 9 (.string s) (some (.int .i64 (i:Int))) (some (.int .i64 ((i:Int)+1))) none).run Tryz.prog w=.ok (.string (s.extract i (i+1))) w:=λw=>by
     rw[run_slice_string_if w _ s _ _ _ _ Tryz.underlying9,iP Z,iP Z];rfl
    have hw1:IntKind.i64.wrap ((i:Int)+1)=(i:Int)+1:=wI Z;have hb1:(i:Int)+1<=s.size:=Z;have hb2:(0:Int)<=(i:Int)+1:=Z;have hb3:(i:Int)<=(i:Int)+1:=Z;have HX:Hid ((s.extract i (i+1)).size<=8):=Hd (by rw[ByteArray.size_extract];omega);generalize s.extract i (i+1)=x at *;go_wp2_with fail;exact HF0.out _ 1 _ Z HX.out rfl
   .have hrd:=xH s i;have CR:=Hd (λw=>zIu s i w Z);have h4:(rd s i).2<=4:=by have:=zRh s i;omega
    rw[yF]at CR;generalize(rd s i).2=n at *;generalize(rd s i).1=r at *;have hsl:∀w,(Instr.slice 9 (.string s) (some (.int .i64 (i:Int))) (some (.int .i64 ((i:Int)+n))) none).run Tryz.prog w=.ok (.string (s.extract i (i+n))) w:=λw=>by
     rw[run_slice_string_if w _ s _ _ _ _ Tryz.underlying9,iP Z,iP Z];rfl
    have hw1:IntKind.i64.wrap ((i:Int)+n)=(i:Int)+n:=wI Z;have hb1:(i:Int)+n<=s.size:=Z;have hb2:(0:Int)<=(i:Int)+n:=Z;have hb3:(i:Int)<=(i:Int)+n:=Z;have HX:Hid ((s.extract i (i+n)).size<=8):=Hd (by rw[ByteArray.size_extract];omega);generalize s.extract i (i+n)=x at *;go_wp2_with fail;refine(CR.out _).mono ?_;rintro e w2 ⟨rfl,hb2⟩;have hib2:=HIB.out.keep hb2;obtain⟨dx,dy,dg0,dg1⟩:=hib2.c;have dz0:=hib2.fz 0;have dz1:=hib2.fz 1;have HIB2:=Hd hib2;clear hib2 hb2;go_wp2_with fail;exact HF.out _ _ n _ HIB2.out Z HX.out rfl
theorem zXv{w:World}{B g:Nat}{v:Value}{n:Nat}{xs:List Value}{ca:Array Value}{fr:Nat×Nat}(h:w.ownsRow B 5 1 v n xs)(hg:w.heap[g]?=some (.cells ca 141 fr)):v.ownBlock≠some g:=by
 rcases h.2 with⟨rfl,_⟩|⟨g',cap,cur,rfl,_,hh,_⟩
 .simp[Value.ownBlock]
 .simp only[Value.ownBlock,ne_eq,Option.some.injEq];rintro rfl;rw[hh]at hg;simp at hg
def BgP(w:World)(e:Ending)(w':World):Prop:=∃(k a:Int) (t:ByteArray) (b:Int),e=.returned (.tuple #[.int .u8 k,.int .i64 a,.string t,.int .i64 b])/\Below w.heap.size w w'
@[irreducible] def bgRel(s:ByteArray)(w:World)(v k:Value)(wr:World):Prop:=∃(j:Nat) (l:List Int),k=.int .i64 (j:Int)/\j<=s.size+10/\1<=j/\l.length<=8*j/\(∃a n c,v=.slice a n c)/\Below w.heap.size w wr/\wr.ownsRow w.heap.size 5 1 v l.length (l.map (Value.int .u8))
@[irreducible] def bgIn(w:World)(m gx:Nat)(n:Int)(sx:ByteArray)(v k:Value)(wr:World):Prop:=∃(q:Nat) (l:List Int),k=.int .i64 (q:Int)/\q<=sx.size/\l.length=m+q/\(∃a n c,v=.slice a n c)/\Below w.heap.size w wr/\wr.ownsRow w.heap.size 5 1 v l.length (l.map (Value.int .u8))/\wr.heap[gx]?=some (.cells #[.int .i64 n,.string sx] 141 (0,0))
theorem zQk(s:ByteArray)(hi:0<s.size)(hm:bt s 0=96)(hs:s.size<=2147483647)(w:World):Calls Tryz.prog 70 #[.string s,.int .i64 0] w (BgP w):=by
 have HQ:Hid (∀k a t b w',Below w.heap.size w w'->BgP w (.returned (.tuple #[.int .u8 k,.int .i64 a,.string t,.int .i64 b])) w'):=Hd λk a t b w' h=>⟨k,a,t,b,rfl,h⟩
 generalize BgP w=Q at HQ ⊢;have hi':(0:Int)<s.size:=Z;have hxx:∀h,((s[0]'h).toNat:Int)=96:=λh=>by rw[zL s 0 h,hm];rfl
 have hne:¬s=ByteArray.empty:=λe=>by subst e;exact absurd hi V
 have HAT:Hid (bgRel s w (.slice none 0 0) (.int .i64 1) w):=Hd (by unfold bgRel;exact⟨1,[],rfl,Z,Z,Ob,⟨_,_,_,rfl⟩,bR _ _,World.ownsRow_nil _ _ _ _⟩);go_enter Tryz.func70,Tryz.ntmps70;go_wp2_with fail;go_loopw [9,10] (λv k wr=>bgRel s w v k wr) (λ_ k _=>s.size+10-(intOf k).toNat)
 case atStart=>exact HAT.out
 case round =>
  unfold bgRel at hrel;obtain⟨j,l,rfl,hj,hj1,hl,⟨va,vm,vc,rfl⟩,hb,hown⟩:=hrel;have HB:=Hd hb;have HO:=Hd hown;have hbase:=hb.size;clear hb hown HAT;by_cases hp:j<s.size
  .have hp':(j:Int)<s.size:=Z;have hj0:(0:Int)<=j:=Z;have hyy:∀h,((s[j]'h).toNat:Int)=(bt s j:Int):=λh=>by rw[zL s j h]
   have hwj:IntKind.i64.wrap ((j:Int)+1)=((j+1:Nat):Int):=wI Z;have hbl:=yT s j;generalize bt s j=c at *;by_cases hc:c=96
   .have hcc:(c:Int)=96:=Z;have hcv:∀n,(convert 92 9 (.slice va vm vc)).run Tryz.prog (wr.drewN n)=.ok (.string (strOfNums l)) (wr.drewN n):=λn=>gK (w:=wr.drewN n) HO.out
    have HBN:Hid (∀n,Below w.heap.size w (wr.drewN n)):=Hd λn=>bdrewN HB.out n;go_wp2_with fail;go_quiet (fail);go_wp2_with fail;refine bodyPost_ret (zN rfl _ _ _) rfl ?_;exact HQ.out _ _ _ _ _ (HBN.out _)
   .have hcc:¬(c:Int)=96:=Z;have hcb:((c:Int)==96)=false:=by rw[bE];exact hcc
    by_cases h13:c=13
    .have h13':(c:Int)=13:=Z;have HR:Hid (bgRel s w (.slice va vm vc) (.int .i64 ((j+1:Nat):Int)) wr):=Hd (by unfold bgRel;exact⟨j+1,l,rfl,Z,Z,Z,⟨_,_,_,rfl⟩,HB.out,HO.out⟩);go_wp2_with fail;exact⟨HR.out,by simp only[intOf];omega⟩
    .have h13':¬(c:Int)=13:=Z;have h13b:((c:Int)==13)=false:=by rw[bE];exact h13'
     go_wp2_with (at_builtin;refine zQ wr #[.int .u8 (c:Int)] _ rfl _ _ 92 5 rfl Tryz.underlying92 w.heap.size vX rfl V _ _ _ rfl HO.out 1 1 rfl rfl V (by intro u hu;simp at hu;subst hu;rfl) Z Z hbase ?_);intro v' w' hown hgr _;have hb4:=xM HB.out hbase HO.out hgr;obtain⟨a8,n8,c8,rfl⟩:=zI hown;have HR:Hid (bgRel s w (.slice a8 n8 c8) (.int .i64 ((j+1:Nat):Int)) w'):=Hd (by unfold bgRel;exact⟨j+1,l++[(c:Int)],rfl,Z,Z,by rw[lA];simp;omega,⟨_,_,_,rfl⟩,hb4,by rw[lA,List.map_append];exact hown⟩);clear hb4 hown hgr;go_wp2_with fail;exact⟨HR.out,by simp only[intOf];omega⟩
  .have hp':¬(j:Int)<s.size:=Z;go_wp2_with fail;refine bodyPost_ret (zN rfl _ _ _) rfl ?_;exact HQ.out _ _ _ _ _ HB.out
theorem zIx(s:ByteArray)(m:Nat)(hmm:m=34\/m=39)(hi:0<s.size)(hm:bt s 0=m)(hs:s.size<=2147483647)(w:World):Calls Tryz.prog 70 #[.string s,.int .i64 0] w (BgP w):=by
 have HQ:Hid (∀k a t b w',Below w.heap.size w w'->BgP w (.returned (.tuple #[.int .u8 k,.int .i64 a,.string t,.int .i64 b])) w'):=Hd λk a t b w' h=>⟨k,a,t,b,rfl,h⟩
 generalize BgP w=Q at HQ ⊢;have hi':(0:Int)<s.size:=Z;have hxx:∀h,((s[0]'h).toNat:Int)=(m:Int):=λh=>by rw[zL s 0 h,hm]
 have hne:¬s=ByteArray.empty:=λe=>by subst e;exact absurd hi V
 have HAT:Hid (bgRel s w (.slice none 0 0) (.int .i64 1) w):=Hd (by unfold bgRel;exact⟨1,[],rfl,Z,Z,Ob,⟨_,_,_,rfl⟩,bR _ _,World.ownsRow_nil _ _ _ _⟩);have CT:=Hd (λj (h:j<s.size) W=>yCn s j m hmm h Z W);clear hm;rcases hmm with rfl|rfl;all_goals
  go_enter Tryz.func70,Tryz.ntmps70;go_wp2_with fail;go_loopw [9,10] (λv k wr=>bgRel s w v k wr) (λ_ k _=>s.size+10-(intOf k).toNat)
  case atStart=>exact HAT.out
  case round =>
   unfold bgRel at hrel;obtain⟨j,l,rfl,hj,hj1,hl,⟨va,vm,vc,rfl⟩,hb,hown⟩:=hrel;have HB:=Hd hb;have HO:=Hd hown;clear hb hown HAT;by_cases hp:j<s.size
   case neg =>
    have hp':¬(j:Int)<s.size:=Z;have hp2:(s.size:Int)<=j:=Z;go_wp2_with fail;refine bodyPost_ret (zN rfl _ _ _) rfl ?_;exact HQ.out _ _ _ _ _ HB.out
   have hp':(j:Int)<s.size:=Z;have hp2:¬(s.size:Int)<=j:=Z;have hj0:(0:Int)<=j:=Z;have hyy:∀h,((s[j]'h).toNat:Int)=(bt s j:Int):=λh=>by rw[zL s j h]
   have hwj:IntKind.i64.wrap ((j:Int)+1)=((j+1:Nat):Int):=wI Z;have C1:=Hd (CT.out j hp wr);generalize bt s j=c at *;first
    | (rcases zAx c 34 34 rfl with ⟨a1,a2⟩ | rfl
       rotate_left
       have hcv:∀n,(convert 92 9 (.slice va vm vc)).run Tryz.prog (wr.drewN n)=.ok (.string (strOfNums l)) (wr.drewN n):=λn=>gK (w:=wr.drewN n) HO.out
       have HBN:Hid (∀n,Below w.heap.size w (wr.drewN n)):=Hd λn=>bdrewN HB.out n;go_wp2_with fail;go_quiet (fail);go_wp2_with fail;refine bodyPost_ret (zN rfl _ _ _) rfl ?_;exact HQ.out _ _ _ _ _ (HBN.out _))
    | (rcases zAx c 39 39 rfl with ⟨a1,a2⟩ | rfl
       rotate_left
       by_cases hj2:j=1
       · subst hj2
         go_wp2_with fail;refine bodyPost_ret (zN rfl _ _ _) rfl ?_;exact HQ.out _ _ _ _ _ HB.out
       · have hj3:¬(j:Int)=1:=Z
         have hj4:((j:Int)==1)=false:=by rw[bE];exact hj3
         have hcv:∀n,(convert 92 9 (.slice va vm vc)).run Tryz.prog (wr.drewN n)=.ok (.string (strOfNums l)) (wr.drewN n):=λn=>gK (w:=wr.drewN n) HO.out
         have HBN:Hid (∀n,Below w.heap.size w (wr.drewN n)):=Hd λn=>bdrewN HB.out n;go_wp2_with fail;go_quiet (fail);go_wp2_with fail;refine bodyPost_ret (zN rfl _ _ _) rfl ?_;exact HQ.out _ _ _ _ _ (HBN.out _))
   go_wp2_with fail;refine C1.out.mono ?_;rintro e w1 ⟨n,sx,rfl,hn,hsx,hb1⟩;have HB1:=Hd ((zD HB.out hb1).alloc (zD HB.out hb1).size (.cells #[.int .i64 (n:Int),.string sx] 141));have HO1:=Hd ((yM HO.out hb1).alloc (.cells #[.int .i64 (n:Int),.string sx] 141));have HG:=Hd (heap_alloc_new w1 (.cells #[.int .i64 (n:Int),.string sx] 141));clear hb1 C1;by_cases hn0:n=0
   .subst hn0;go_wp2_with fail;refine bodyPost_ret (zN rfl _ _ _) rfl ?_;exact HQ.out _ _ _ _ _ HB1.out
   have hn1:¬(n:Int)=0:=Z;have hn2:((n:Int)==0)=false:=by rw[bE];exact hn1
   have HIN:Hid (bgIn w l.length w1.heap.size n sx (.slice va vm vc) (.int .i64 0) (w1.alloc (.cells #[.int .i64 (n:Int),.string sx] 141))):=Hd (by unfold bgIn;exact⟨0,l,rfl,Nat.zero_le _,rfl,⟨_,_,_,rfl⟩,HB1.out,HO1.out,HG.out⟩);go_wp2_with fail;generalize w1.alloc (.cells #[.int .i64 (n:Int),.string sx] 141)=w2 at *;generalize w1.heap.size=gx at *;go_loopw [9,12] (λv k wr=>bgIn w l.length gx n sx v k wr) (λ_ k _=>sx.size-(intOf k).toNat)
   case atStart=>exact HIN.out
   case round =>
    unfold bgIn at hrel;obtain⟨q,l2,rfl,hq,hl2,⟨va3,vm3,vc3,rfl⟩,hb3,hown3,hg3⟩:=hrel;have HB3:=Hd hb3;have HO3:=Hd hown3;have HG3:=Hd hg3;have cg0:wr.cell? ⟨gx,0,none⟩=some (.int .i64 n):=by simp[World.cell?,hg3]
    have cg1:wr.cell? ⟨gx,1,none⟩=some (.string sx):=by simp[World.cell?,hg3]
    have hbase:=hb3.size;clear hb3 hown3 hg3 HIN;by_cases hlt:q<sx.size
    .have hlt':(q:Int)<sx.size:=Z;have hk0:(0:Int)<=q:=Z;have hwk:IntKind.i64.wrap ((q:Int)+1)=((q+1:Nat):Int):=wI Z;have hxk:=zL sx q hlt;generalize bt sx q=y at *;go_wp2_with (at_builtin;refine zQ wr #[.int .u8 (y:Int)] _ rfl _ _ 92 5 rfl Tryz.underlying92 w.heap.size vX rfl V _ _ _ rfl HO3.out 1 1 rfl rfl V (by intro u hu;simp at hu;subst hu;rfl) Z Z hbase ?_);intro v' w' hown hgr _;have hb4:=xM HB3.out hbase HO3.out hgr;have hg4:w'.heap[gx]?=some (.cells #[.int .i64 n,.string sx] 141 (0,0)):=by
      have hne:=zXv HO3.out HG3.out;have hlt:=yH HG3.out;rw[hgr.block gx (by simp;omega) (λe=>hne e.symm),Below.heap_alloc _ _ _ hlt];exact HG3.out
     obtain⟨a8,n8,c8,rfl⟩:=zI hown;have HR:Hid (bgIn w l.length gx n sx (.slice a8 n8 c8) (.int .i64 ((q+1:Nat):Int)) w'):=Hd (by unfold bgIn;exact⟨q+1,l2++[(y:Int)],rfl,hlt,by rw[lA];simp;omega,⟨_,_,_,rfl⟩,hb4,by rw[lA,List.map_append,hl2];exact hown,hg4⟩);clear hown hb4 hgr hg4;go_wp2_with fail;exact⟨HR.out,by simp only[intOf];omega⟩
    .have hlt':¬(q:Int)<sx.size:=Z;have hwn:IntKind.i64.wrap ((j:Int)+n)=((j+n:Nat):Int):=wI Z;first
      | (have HR:Hid (bgRel s w (.slice va3 vm3 vc3) (.int .i64 ((j+n:Nat):Int)) wr):=Hd (by unfold bgRel;exact ⟨j+n,l2,rfl,Z,Z,Z,⟨_,_,_,rfl⟩,HB3.out,HO3.out⟩)
         go_wp2_with fail;exact⟨HR.out,by simp only[intOf];omega⟩)
      | (generalize hJ:j+n=J at *
         have hJ1:¬(J:Int)=1:=Z;have hJ2:((J:Int)==1)=false:=by rw[bE];exact hJ1
         have hwJ:IntKind.i64.wrap ((J:Int)+1)=((J+1:Nat):Int):=wI Z;by_cases hpJ:J<s.size
         · have hp3:¬(s.size:Int)<=J:=Z
           have hp4:(J:Int)<s.size:=Z;have hJ0:(0:Int)<=J:=Z;have yJ:=zL s J hpJ;generalize bt s J=d at *;rcases zAx d 39 39 rfl with⟨e1,e2⟩|rfl
           · go_wp2_with fail
             refine bodyPost_ret (zN rfl _ _ _) rfl ?_;exact HQ.out _ _ _ _ _ HB3.out
           · have hcv:∀n,(convert 92 9 (.slice va3 vm3 vc3)).run Tryz.prog (wr.drewN n)=.ok (.string (strOfNums l2)) (wr.drewN n):=λn=>gK (w:=wr.drewN n) HO3.out
             have HBN:Hid (∀n,Below w.heap.size w (wr.drewN n)):=Hd λn=>bdrewN HB3.out n;go_wp2_with fail;go_quiet (fail);go_wp2_with fail;refine bodyPost_ret (zN rfl _ _ _) rfl ?_;exact HQ.out _ _ _ _ _ (HBN.out _)
         · have hp3:(s.size:Int)<=J:=Z
           go_wp2_with fail;refine bodyPost_ret (zN rfl _ _ _) rfl ?_;exact HQ.out _ _ _ _ _ HB3.out)
theorem zTg(s:ByteArray)(hs:s.size<=2147483647)(w:World):Calls Tryz.prog 70 #[.string s,.int .i64 0] w (BgP w):=by
 by_cases hi:0<s.size
 .by_cases h34:bt s 0=34
  .exact zIx s 34 (Or.inl rfl) hi h34 hs w
  by_cases h39:bt s 0=39
  .exact zIx s 39 (Or.inr rfl) hi h39 hs w
  by_cases h96:bt s 0=96
  .exact zQk s hi h96 hs w
  have HQ:Hid (∀k a t b w',Below w.heap.size w w'->BgP w (.returned (.tuple #[.int .u8 k,.int .i64 a,.string t,.int .i64 b])) w'):=Hd λk a t b w' h=>⟨k,a,t,b,rfl,h⟩
  generalize BgP w=Q at HQ ⊢;have hi':(0:Int)<s.size:=Z;have hne:¬s=ByteArray.empty:=λe=>by subst e;exact absurd hi V
  have hxx:∀h,((s[0]'h).toNat:Int)=(bt s 0:Int):=λh=>by rw[zL s 0 h]
  generalize bt s 0=c at *;obtain⟨a1,a2⟩:=(zAx c 34 34 rfl).resolve_right h34;obtain⟨a3,a4⟩:=(zAx c 39 39 rfl).resolve_right h39;obtain⟨a5,a6⟩:=(zAx c 96 96 rfl).resolve_right h96;have b1:¬(c:Int)=34:=Z;have b2:¬(c:Int)=39:=Z;have b3:¬(c:Int)=96:=Z;go_enter Tryz.func70,Tryz.ntmps70;go_wp2_with fail;refine bodyPost_ret (zN rfl _ _ _) rfl ?_;exact HQ.out _ _ _ _ _ (bR _ _)
 .have HQ:Hid (∀k a t b w',Below w.heap.size w w'->BgP w (.returned (.tuple #[.int .u8 k,.int .i64 a,.string t,.int .i64 b])) w'):=Hd λk a t b w' h=>⟨k,a,t,b,rfl,h⟩
  generalize BgP w=Q at HQ ⊢;obtain rfl:s=ByteArray.empty:=by
   apply ByteArray.ext;apply Array.toList_inj.1;have:s.data.toList.length=0:=by rw[<-size_data];omega
   rw[List.length_eq_zero_iff.1 this];rfl
  go_enter Tryz.func70,Tryz.ntmps70;go_wp2_with fail;refine bodyPost_ret (zN rfl _ _ _) rfl ?_;exact HQ.out _ _ _ _ _ (bR _ _)
def VaP(w:World)(e:Ending)(w':World):Prop:=∃(t:ByteArray) (b:Int),e=.returned (.tuple #[.string t,.int .i64 b])/\Below w.heap.size w w'
theorem zQl(s:ByteArray)(hs:s.size<=2147483647)(w:World):Calls Tryz.prog 42 #[.string s] w (VaP w):=by
 have CB:=Hd (zTg s hs w);have HQ:Hid (∀t b w',Below w.heap.size w w'->VaP w (.returned (.tuple #[.string t,.int .i64 b])) w'):=Hd λt b w' h=>⟨t,b,rfl,h⟩
 generalize VaP w=Q at HQ ⊢;go_enter Tryz.func42,Tryz.ntmps42;go_wp2_with fail;refine CB.out.mono ?_;rintro e w1 ⟨k,t,v,err,rfl,hb⟩;have HB:=Hd hb;clear hb;by_cases h1:err=0
 .by_cases h2:t=s.size
  .go_wp2_with fail;exact HQ.out _ _ _ HB.out
  .go_wp2_with fail;exact HQ.out _ _ _ HB.out
 .go_wp2_with fail;exact HQ.out _ _ _ HB.out
end Go.Proofs.YtfpjdpdmgceciaaGreatDoor
