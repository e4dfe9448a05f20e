/- Layer 6: the program's begun, walked. -/
import Derived.Test.YtfpjdpdmgceciaaGreatDoorCoreTg
import Derived.Test.YtfpjdpdmgceciaaGreatDoorStillTg
import Derived.Test.YtfpjdpdmgceciaaGreatDoorQuotedPTg
import Derived.Test.YtfpjdpdmgceciaaGreatDoorShelfQTg
import Derived.Laws.Strings3
namespace Go.Proofs.YtfpjdpdmgceciaaGreatDoor
set_option maxRecDepth 100000
set_option maxHeartbeats 32000000
set_option linter.all false
open Go.RowKit
attribute [local irreducible] wpStill
def MaxC(w:World):Prop:=∃m,w.cell? ⟨0,0,none⟩=some (.int .i64 m)/\0<w.heap.size
theorem MaxC.below{w w':World}(h:MaxC w)(hb:Below w.heap.size w w'):MaxC w':=by
 obtain⟨m,hm,hlt⟩:=h;exact⟨m,by rw[hb.cell (p:=⟨0,0,none⟩) hlt];exact hm,Nat.lt_of_lt_of_le hlt hb.size⟩
theorem zSx:∀c,c<256->(decide (Lib.indexByte [39,34,96] (UInt8.ofNat c)<0))=!isMark c:=by decide +kernel
theorem RS.fresh(w:World)(hT:Tabs w)(s:ByteArray)(i:Int):RS (w.alloc (.cells #[.string s,.int .i64 i,.int .u8 0,.slice none 0 0,.bool false] 181 (0,0))) w.heap.size s i 0 [] false:=by
 refine⟨hT.below ((bR _ _).alloc (nR _) _),hT.2.1,hT.2.2,.slice none 0 0,?_,?_⟩
 .show(w.heap.push _)[w.heap.size]?=_;rw[Array.getElem?_push_size]
 .exact⟨rfl,Or.inl ⟨rfl,rfl⟩⟩
theorem zN{fn:Func}{t u v x:Tmp}(h:fn.results=#[.tmp t,.tmp u,.tmp v,.tmp x])(tmps:Array Value)(P:Program)(w:World) :
  (results fn tmps).run P w=.ok (.tuple #[tmps.getD t undef,tmps.getD u undef,tmps.getD v undef,tmps.getD x undef]) w:=by
 simp[results,h]
def begunVals(q:Int×Int×ByteArray×Int):Value:=.tuple #[.int .u8 q.1,.int .i64 q.2.1,.string q.2.2.1,.int .i64 q.2.2.2]
theorem zLj{s:ByteArray}{at':Int}(h:at'<0\/(s.size:Int)<=at'):begun s at'=(0,0,ByteArray.empty,15):=by unfold begun;rw[iP h]
theorem zQe{s:ByteArray}{i:Nat}(hm:isMark (bt s i)=false):begun s i=(0,0,ByteArray.empty,15):=by
 unfold begun;split
 .rfl
 .rw[Int.toNat_natCast,hm];rfl
theorem zXj{s:ByteArray}{i:Nat}(hi:i<s.size)(hm:bt s i=96):begun s i=match raw s (i+1)with
  |none=>(0,0,ByteArray.empty,4)
  |some (e,l)=>(7,e,strOfNums l,0):=by
 unfold begun;rw[iN Z,Int.toNat_natCast,hm,iP V];unfold begunAt;rw[hm,iP rfl];cases raw s (i+1)<;>rfl
theorem zSy{s:ByteArray}{i:Nat}(hi:i<s.size)(hm:bt s i=34\/bt s i=39):begun s i=match xY s (bt s i) (i+1) 0 with
  |none=>(0,0,ByteArray.empty,4)
  |some (e,l)=>(if bt s i=34 then 7 else 6,e,strOfNums l,0):=by
 have hM:isMark (bt s i)=true:=by rcases hm with h|h<;>rw[h]<;>decide
 unfold begun;rw[iN Z,Int.toNat_natCast,hM,iP rfl];unfold begunAt xY;rcases hm with h|h
 .rw[h];simp;cases body s (i+1)<;>rfl
 .rw[h];simp;cases single s (i+1)<;>rfl
@[irreducible] def begunPost(s:ByteArray)(at':Int)(w0:World)(e:Ending)(w':World):Prop :=
 e=.returned (begunVals (begun s at'))/\Below w0.heap.size w0 w'
theorem zDu(s:ByteArray)(at':Int)(w0:World)(hT:Tabs w0)(hM:MaxC w0)(hs:s.size<=2147483647) :
  Calls Tryz.prog 127 #[.string s,.int .i64 at'] w0 (begunPost s at' w0):=by
 have HQ:Hid (∀k e v err w',Below w0.heap.size w0 w'->begun s at'=(k,e,v,err)->begunPost s at' w0 (.returned (.tuple #[.int .u8 k,.int .i64 e,.string v,.int .i64 err])) w') :=
  Hd λk e v err w' h1 h2=>by unfold begunPost;rw[h2];exact⟨rfl,h1⟩
 generalize begunPost s at' w0=Q at *;by_cases h0:at'<0
 .have hz:=zLj (s:=s) (Or.inl h0);have HZ:=Hd hz;clear hz;go_enter Tryz.func127,Tryz.ntmps127;go_wp2_with fail;refine bodyPost_ret (zN rfl _ _ _) rfl ?_;exact HQ.out _ _ _ _ _ (bR _ _) HZ.out
 .by_cases h1:(s.size:Int)<=at'
  .have hz:=zLj (s:=s) (Or.inr h1);have HZ:=Hd hz;clear hz;go_enter Tryz.func127,Tryz.ntmps127;go_wp2_with fail;refine bodyPost_ret (zN rfl _ _ _) rfl ?_;exact HQ.out _ _ _ _ _ (bR _ _) HZ.out
  .obtain⟨i,rfl⟩:∃i:Nat,at'=i:=⟨at'.toNat,(Int.toNat_of_nonneg Z).symm⟩;have hi:i<s.size:=Z;have hi':(i:Int)<s.size:=Z;have hi0:(0:Int)<=i:=Z;have hbt:=zL s i hi;have hbl:=yT s i;have CI':∀w,Calls Tryz.prog 162 #[.string ⟨#[39,34,96]⟩,.int .u8 (bt s i:Int)] w λe w'=>e=.returned (.int .i64 (Lib.indexByte [39,34,96] (UInt8.ofNat (bt s i))))/\w=w':=λw=>(Tryz.strings_IndexByte ⟨#[39,34,96]⟩ (bt s i:Int) w).mono λe w' h=>by
    refine⟨?_,h.2.symm⟩;rw[h.1];simp
   have CI:=Hd CI';clear CI';have hmi:=zSx (bt s i) hbl;by_cases hmk:isMark (bt s i)=true
   .have hlt:¬Lib.indexByte [39,34,96] (UInt8.ofNat (bt s i))<0:=by rw[hmk]at hmi;simpa using hmi
    generalize Lib.indexByte [39,34,96] (UInt8.ofNat (bt s i))=x at *;by_cases h96:bt s i=96
    .have HZ:=Hd (zXj hi h96);have h96':(bt s i:Int)=96:=Z;rw[h96']at CI;obtain⟨m,hm,_⟩:=hM;have hslA:∀w,(Instr.slice 9 (.string s) (some (.int .i64 ((i:Int)+1))) none none).run Tryz.prog w=.ok (.string (s.extract (i+1) s.size)) w:=λw=>by
      rw[run_slice_string_from_if w _ s _ _ Tryz.underlying9,iP Z];rfl
     have hw1:IntKind.i64.wrap ((i:Int)+1)=(i:Int)+1:=wI Z;have hi1:(i:Int)+1<=s.size:=Z;have hi2:(0:Int)<=(i:Int)+1:=Z;have hge:=Lib.indexByte_ge (s.extract (i+1) s.size).data.toList 96;have hlt2:=zBp 96 (s.extract (i+1) s.size).data.toList;rw[<-size_data,ByteArray.size_extract]at hlt2;have hz:=yBz s (i+1);have CJ':∀w,Calls Tryz.prog 162 #[.string (s.extract (i+1) s.size),.int .u8 96] w λe w'=>e=.returned (.int .i64 (Lib.indexByte (s.extract (i+1) s.size).data.toList 96))/\w=w':=λw=>(Tryz.strings_IndexByte (s.extract (i+1) s.size) 96 w).mono λe w' h=>⟨h.1,h.2.symm⟩
     have CJ:=Hd CJ';clear CJ';generalize Lib.indexByte (s.extract (i+1) s.size).data.toList 96=y at *;have HZZ:=Hd hz;clear hz;by_cases hy:y<0
     .have HZ2:Hid (begun s i=(0,0,ByteArray.empty,4)):=Hd (by rw[HZ.out,HZZ.out,iP hy]);clear HZ HZZ;generalize bt s i=c at *;go_enter Tryz.func127,Tryz.ntmps127;go_wp2_with fail;refine(CI.out _).mono ?_;rintro e w' ⟨rfl,rfl⟩;go_wp2_with fail;refine(CJ.out _).mono ?_;rintro e w' ⟨rfl,rfl⟩;go_wp2_with fail;refine bodyPost_ret (zN rfl _ _ _) rfl ?_;exact HQ.out _ _ _ _ _ (bR _ _) HZ2.out
     .obtain⟨n,rfl⟩:∃n:Nat,y=n:=⟨y.toNat,(Int.toNat_of_nonneg Z).symm⟩;have hn:i+1+n<=s.size:=Z;rw[iN hy,Int.toNat_natCast]at HZZ;have hsz:(s.extract (i+1) (i+1+n)).size=n:=by simp;omega
      have CR:=Hd (Tryz.strings_ReplaceAll (s.extract (i+1) (i+1+n)) ⟨#[13]⟩ ⟨#[]⟩ m w0 (by rw[hsz];omega) hm V (by
       rw[hsz];have e0:(⟨#[]⟩:ByteArray).size=0:=rfl;rw[e0,Nat.mul_zero];omega))
      have HZ2:Hid (begun s i=(7,(i:Int)+n+2,⟨(Lib.replaceAll (s.extract (i+1) (i+1+n)).data.toList [13] []).toArray⟩,0)):=Hd (by
       rw[HZ.out,HZZ.out];simp only[zGr];have e3:((i+1+n+1:Nat):Int)=(i:Int)+n+2:=Z;rw[e3])
      have hslB:∀w,(Instr.slice 9 (.string s) (some (.int .i64 ((i:Int)+1))) (some (.int .i64 ((i:Int)+1+n))) none).run Tryz.prog w=.ok (.string (s.extract (i+1) (i+1+n))) w:=λw=>by
       rw[run_slice_string_if w _ s _ _ _ _ Tryz.underlying9,iP Z,iP Z];rfl
      have hw2:IntKind.i64.wrap ((i:Int)+1+n)=(i:Int)+1+n:=wI Z;have hw3:IntKind.i64.wrap ((i:Int)+n)=(i:Int)+n:=wI Z;have hw4:IntKind.i64.wrap ((i:Int)+n+2)=(i:Int)+n+2:=wI Z;have hb1:(i:Int)+1+n<=s.size:=Z;have hb2:(0:Int)<=(i:Int)+1+n:=Z;have hb3:(i:Int)+1<=(i:Int)+1+n:=Z;clear HZ HZZ;generalize bt s i=c at *;rw[show(⟨#[13]⟩:ByteArray).data.toList=[13]from rfl,show(⟨#[]⟩:ByteArray).data.toList=[]from rfl]at CR;generalize Lib.replaceAll (s.extract (i+1) (i+1+n)).data.toList [13] []=rl at *;go_enter Tryz.func127,Tryz.ntmps127;go_wp2_with fail;refine(CI.out _).mono ?_;rintro e w' ⟨rfl,rfl⟩;go_wp2_with fail;refine(CJ.out _).mono ?_;rintro e w' ⟨rfl,rfl⟩;go_wp2_with fail;refine CR.out.mono ?_;rintro e w' ⟨rfl,hbw⟩;go_wp2_with fail;refine bodyPost_ret (zN rfl _ _ _) rfl ?_;exact HQ.out _ _ _ _ _ hbw HZ2.out
    .have hm2:bt s i=34\/bt s i=39:=by
      unfold isMark at hmk;simp at hmk;omega
     have HZ:=Hd (zSy hi hm2);have h96':¬(bt s i:Int)=96:=Z;have HRD:=Hd (zQd s w0.heap.size i _ (RS.fresh w0 hT s i) hi hm2 Z);have HM2:=Hd hm2;generalize hc:bt s i=c at *;go_enter Tryz.func127,Tryz.ntmps127;go_wp2_with fail;refine(CI.out _).mono ?_;rintro e w' ⟨rfl,rfl⟩;go_wp2_with fail;refine HRD.out.mono ?_;intro e w1 h1;unfold readPost at h1;obtain⟨hb1,h1⟩:=h1;have hbw:Below w0.heap.size w0 w1:=((bR _ _).alloc (nR _) _).trans hb1;have HBW:=Hd hbw;rw[hc]at h1;cases hl:xY s c (i+1) 0 with
     |none =>
      rw[hl]at h1 HZ;subst h1;go_wp2_with fail;refine bodyPost_ret (zN rfl _ _ _) rfl ?_;exact HQ.out _ _ _ _ _ HBW.out HZ.out
     |some q =>
      obtain⟨j,x⟩:=q;rw[hl]at h1 HZ;obtain⟨rfl,hr⟩:=h1;have c2:=hr.c2;have c1:=hr.c1;obtain⟨out,c3,ho⟩:=hr.c3;have hcv:∀n,(convert 92 9 out).run Tryz.prog (w1.drewN n)=.ok (.string (strOfNums x)) (w1.drewN n):=λn=>gK ho;have HBN:Hid (∀n,Below w0.heap.size w0 (w1.drewN n)):=Hd λn=>bdrewN HBW.out n;clear hr ho hb1 hbw;by_cases h34:c=34
      .have h34':(c:Int)=34:=Z;rw[iP h34]at HZ;go_wp2_with fail;go_quiet (fail);go_wp2_with fail;refine bodyPost_ret (zN rfl _ _ _) rfl ?_;exact HQ.out _ _ _ _ _ (HBN.out _) HZ.out
      .have h34':¬(c:Int)=34:=Z;rw[iN h34]at HZ;go_wp2_with fail;go_quiet (fail);go_wp2_with fail;refine bodyPost_ret (zN rfl _ _ _) rfl ?_;exact HQ.out _ _ _ _ _ (HBN.out _) HZ.out
   .have hmk':isMark (bt s i)=false:=by simpa using hmk
    have HZ:=Hd (zQe hmk');have hlt:Lib.indexByte [39,34,96] (UInt8.ofNat (bt s i))<0:=by rw[hmk']at hmi;simpa using hmi
    clear hmk hmk' hmi;generalize bt s i=c at *;generalize Lib.indexByte [39,34,96] (UInt8.ofNat c)=x at *;go_enter Tryz.func127,Tryz.ntmps127;go_wp2_with fail;refine(CI.out _).mono ?_;rintro e w' ⟨rfl,rfl⟩;go_wp2_with fail;refine bodyPost_ret (zN rfl _ _ _) rfl ?_;exact HQ.out _ _ _ _ _ (bR _ _) HZ.out
end Go.Proofs.YtfpjdpdmgceciaaGreatDoor
