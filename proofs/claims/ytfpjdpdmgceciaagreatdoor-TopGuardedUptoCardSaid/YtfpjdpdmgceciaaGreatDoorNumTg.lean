/- Layer 5: the program's functions, walked: a digit's value, a row of digits. -/
import Derived.Test.YtfpjdpdmgceciaaGreatDoorCoreTg
import Derived.Test.YtfpjdpdmgceciaaGreatDoorQuotedTg
import Derived.Test.YtfpjdpdmgceciaaGreatDoorScanPTg
import Derived.OneCell
namespace Go.Proofs.YtfpjdpdmgceciaaGreatDoor
set_option maxRecDepth 100000
set_option maxHeartbeats 32000000
set_option linter.all false
open Go.RowKit
theorem kM(c:Nat)(hc:c<256)(w:World) :
  Calls Tryz.prog 170 #[.int .u8 (c:Int)] w λe w'=>e=.returned (.int .i64 (dval c:Nat))/\w=w':=by
 have hc':(c:Int)<256:=Z;have hc0:(0:Int)<=c:=Z;go_enter Tryz.func170,Tryz.ntmps170;go_wp2_with fail;all_goals go_ret
 all_goals(refine⟨zAg ?_,rfl⟩)
 all_goals(unfold dval;repeat(first|rw[iP Z]|rw[iN Z]|omega))
structure RW(w:World)(B:Nat)(s:ByteArray)(b:Nat)(n:Int):Prop where
 h0:w.heap[B]?=some (.cells #[.string s] 9 (0,0))
 h1:w.heap[B+1]?=some (.cells #[.int .i64 b] 3 (0,0))
 h2:w.heap[B+1+1]?=some (.cells #[.int .i64 n] 3 (0,0))
theorem RW.drewN{w:World}{B:Nat}{s:ByteArray}{b:Nat}{n:Int}(h:RW w B s b n)(k:Nat):RW (w.drewN k) B s b n:=⟨h.h0,h.h1,h.h2⟩
theorem RW.c0{w:World}{B:Nat}{s:ByteArray}{b:Nat}{n:Int}(h:RW w B s b n):w.cell? ⟨B,0,none⟩=some (.string s):=cell_of_one h.h0
theorem RW.c1{w:World}{B:Nat}{s:ByteArray}{b:Nat}{n:Int}(h:RW w B s b n):w.cell? ⟨B+1,0,none⟩=some (.int .i64 b):=cell_of_one h.h1
theorem RW.c2{w:World}{B:Nat}{s:ByteArray}{b:Nat}{n:Int}(h:RW w B s b n):w.cell? ⟨B+1+1,0,none⟩=some (.int .i64 n):=cell_of_one h.h2
theorem RW.z2{w:World}{B:Nat}{s:ByteArray}{b:Nat}{n:Int}(h:RW w B s b n):w.frozen? ⟨B+1+1,0,none⟩=false:=free_of_one h.h2
theorem RW.set{w:World}{B:Nat}{s:ByteArray}{b:Nat}{n:Int}(h:RW w B s b n)(m:Int):RW (w.setCell ⟨B+1+1,0,none⟩ (.int .i64 m)) B s b m :=
 ⟨by rw[heap_setCell_other _ _ _ _ (by show B≠B+1+1;omega)];exact h.h0,by rw[heap_setCell_other _ _ _ _ (by show B+1≠B+1+1;omega)];exact h.h1,one_setCell h.h2⟩
def rwN(B:Nat)(w:World):Nat:=match w.cell? ⟨B+1+1,0,none⟩with
 |some (.int _ n)=>n.toNat
 |_=>0
theorem RW.n{w:World}{B:Nat}{s:ByteArray}{b:Nat}{n:Int}(h:RW w B s b n):rwN B w=n.toNat:=by unfold rwN;rw[h.c2]
theorem RW.new(w:World)(s:ByteArray)(b:Nat):RW (((w.alloc (.cells #[.string s] 9)).alloc (.cells #[.int .i64 b] 3)).alloc (.cells #[.int .i64 0] 3)) w.heap.size s b 0 :=
 ⟨by rw[Below.heap_alloc _ _ _ (by simp;omega),Below.heap_alloc _ _ _ Ob];exact heap_alloc_new _ _,
  by rw[Below.heap_alloc _ _ _ Ob];have:=heap_alloc_new (w.alloc (.cells #[.string s] 9)) (.cells #[.int .i64 b] 3);simpa using this,
  by have:=heap_alloc_new ((w.alloc (.cells #[.string s] 9)).alloc (.cells #[.int .i64 b] 3)) (.cells #[.int .i64 0] 3);simpa using this⟩
def isDig(s:ByteArray)(b n:Nat):Bool:=decide (n<s.size)&&decide (dval (bt s n)<b)
theorem zMi(s:ByteArray)(b n B:Nat)(hn:n<=s.size)(hb:b<=16)(w:World)(hR:RW w B s b n) :
  Calls Tryz.prog 169 #[.pointer (some ⟨B+1+1,0,none⟩),.pointer (some ⟨B,0,none⟩),.pointer (some ⟨B+1,0,none⟩)] w λe w'=>e=.returned (.bool (isDig s b n))/\∃k,w'=w.drewN k:=by
 have c0:=hR.c0;have c1:=hR.c1;have c2:=hR.c2;have CV:=Hd (λw=>kM (bt s n) (yT s n) w);clear hR;by_cases hlt:n<s.size
 .have hlt':(n:Int)<s.size:=Z;have hn0:(0:Int)<=n:=Z;have yy:∀h,((s[n]'h).toNat:Int)=(bt s n:Int):=λh=>by rw[zL s n h]
  have hd:isDig s b n=decide (dval (bt s n)<b):=by unfold isDig;simp[hlt]
  have hdv:dval (bt s n)<=99:=by unfold dval;split<;>(try split)<;>(try split)<;>omega
  have HD:=Hd hd;clear hd;generalize bt s n=c at *;generalize hx:dval c=x at *;clear hx;go_enter Tryz.func169,Tryz.ntmps169;go_wp2_with fail;have CV':∀n,Calls Tryz.prog 170 #[.int .u8 (c:Int)] (w.drewN n) λe w'=>e=.returned (.int .i64 (x:Nat))/\∃m,w'=w.drewN m:=λn=>Calls.quiet_of_same ((CV.out _).mono λe w' h=>⟨h.1,h.2.symm⟩)
  have CC:=Hd CV';clear CV';go_quiet (exact CC.out _);go_wp2_with fail;go_ret;exact⟨zX HD.out.symm,nq,rfl⟩
 .have hlt':¬(n:Int)<s.size:=Z;have hd:isDig s b n=false:=by unfold isDig;simp[hlt]
  have HD:=Hd hd;clear hd CV;go_enter Tryz.func169,Tryz.ntmps169;go_wp2_with fail;go_quiet (fail);go_wp2_with fail;go_ret;exact⟨zX HD.out.symm,nq,rfl⟩
def rowAt(b:Nat)(s:ByteArray)(n:Nat):Nat:=rowL b ((zA s).drop n)
theorem kI(s:ByteArray)(n:Nat)(h:n<s.size):(zA s).drop n=bt s n::(zA s).drop (n+1):=by
 have hl:n<(zA s).length:=by rw[zH];exact h
 rw[List.drop_eq_getElem_cons hl]
 congr 1
 have:=fW s n h;rw[gE hl]at this;exact Option.some.inj this
theorem zHt(s:ByteArray)(n:Nat)(h:s.size<=n):(zA s).drop n=[]:=List.drop_of_length_le (by rw[zH];exact h)
theorem yAc{b:Nat}{s:ByteArray}{n:Nat}(h:isDig s b n=false):rowAt b s n=0:=by
 unfold rowAt;by_cases hn:n<s.size
 .rw[kI s n hn];unfold isDig at h;simp[hn]at h;exact zPc Z
 .rw[zHt s n Z,zHz]
theorem zWm{b:Nat}{s:ByteArray}{n:Nat}(h:isDig s b n=true)(h1:n+2<s.size)(h2:bt s (n+1)=95)(h3:dval (bt s (n+2))<b):rowAt b s n=2+rowAt b s (n+2):=by
 unfold rowAt;unfold isDig at h;simp at h;rw[kI s n Z,kI s (n+1) Z,kI s (n+1+1) Z,h2];exact zIa h.2 h3
theorem zWn{b:Nat}{s:ByteArray}{n:Nat}(h:isDig s b n=true)(h1:¬(n+2<s.size/\bt s (n+1)=95/\dval (bt s (n+2))<b)):rowAt b s n=1+rowAt b s (n+1):=by
 unfold rowAt;unfold isDig at h;simp at h;rw[kI s n Z];refine zKx h.2 ?_;rintro⟨g1,d,g2,g3⟩;by_cases hn:n+1<s.size
 .rw[kI s (n+1) hn]at g1 g2;simp at g1;by_cases hn2:n+2<s.size
  .rw[kI s (n+1+1) hn2]at g2;simp at g2;subst g2;exact h1 ⟨hn2,g1,g3⟩
  .rw[zHt s (n+1+1) Z]at g2;simp at g2
 .rw[zHt s (n+1) Z]at g1;simp at g1
theorem kC(s:ByteArray)(b:Nat)(hb:b<=16)(hs:s.size<=2147483647)(w:World) :
  Calls Tryz.prog 130 #[.string s,.int .i64 (b:Int)] w λe w'=>e=.returned (.int .i64 (rowL b (zA s):Nat))/\Below w.heap.size w w':=by
 have HQ:Hid (∀w' n,rowL b (zA s)=n->Below w.heap.size w w'->(λ(e:Ending) w'=>e=.returned (.int .i64 (rowL b (zA s):Nat))/\Below w.heap.size w w') (.returned (.int .i64 (n:Nat))) w'):=Hd λw' n h h2=>⟨by rw[h],h2⟩
 generalize(λ(e:Ending) w'=>e=.returned (.int .i64 (rowL b (zA s):Nat))/\Below w.heap.size w w')=Q at *;have CD:=Hd (λn hn w1 hR=>zMi s b n w.heap.size hn hb w1 hR);go_enter Tryz.func130,Tryz.ntmps130;go_wp2_with fail;go_loopw [] (λwr=>∃n:Nat,n<=s.size/\rowL b (zA s)=n+rowAt b s n/\RW wr w.heap.size s b n/\Below w.heap.size w wr) (λwr=>s.size-rwN w.heap.size wr)
 case atStart=>exact⟨0,Nat.zero_le _,by unfold rowAt;simp,RW.new w s b,(((bR _ _).alloc (nR _) _).alloc Ob _).alloc (by simp;omega) _⟩
 case round =>
  obtain⟨n,hn,hr,hR,hB⟩:=hrel;have HR:=Hd hR;have HB:=Hd hB;have HE:=Hd hr;have CDn:=CD.out n hn _ hR;clear hr hB hR;cases hd:isDig s b n
  .rw[hd]at CDn;have CC:=Hd CDn;have H0:=Hd (yAc hd);clear CDn hd;go_wp2_with fail;refine CC.out.mono ?_;rintro e w1 ⟨rfl,k,rfl⟩;have c2:=(HR.out.drewN k).c2;have HB1:=Hd (bdrewN HB.out k);clear HB CC;generalize wr.drewN k=w1 at *;go_wp2_with fail;show Q (.returned (.int .i64 _)) _;exact HQ.out _ _ (by rw[HE.out,H0.out,Nat.add_zero]) HB1.out
  .rw[hd]at CDn;have CC:=Hd CDn;have hlt:n<s.size:=by unfold isDig at hd;simp at hd;exact hd.1
   have HT:=Hd (zWm hd);have HO:=Hd (zWn hd);clear CDn hd;go_wp2_with fail;refine CC.out.mono ?_;rintro e w1 ⟨rfl,k,rfl⟩;have hw1:(n:Int)+1<=2147483648:=Z;have hR1:=HR.out.drewN k;have HBk:=Hd (bdrewN HB.out k);clear HB CC;generalize wr.drewN k=w1 at *;have c2:=hR1.c2;have z2:=hR1.z2;have HR2:Hid (RW (w1.setCell ⟨w.heap.size+1+1,0,none⟩ (.int .i64 ((n:Int)+1))) w.heap.size s b ((n+1:Nat):Int)):=Hd (by rw[show((n+1:Nat):Int)=(n:Int)+1 by omega];exact hR1.set _);have HB2:=Hd (HBk.out.setCell (p:=⟨w.heap.size+1+1,0,none⟩) (by show w.heap.size<=w.heap.size+1+1;omega) (.int .i64 ((n:Int)+1)));clear hR1;go_wp2_with fail;have hr2:=HR2.out;have c0:=hr2.c0;have c1:=hr2.c1;have c2:=hr2.c2;have z2:=hr2.z2;have hw2:IntKind.i64.wrap (((n+1:Nat):Int)+1)=((n+1:Nat):Int)+1:=wI Z;clear hr2 hw1;generalize w1.setCell ⟨w.heap.size+1+1,0,none⟩ (.int .i64 ((n:Int)+1))=w2 at *;clear HBk;generalize hm:n+1=m at *;have HM:=Hd hm;clear hm;have hm0:(0:Int)<=m:=Z;by_cases g1:m+1<s.size
   .have g1':(m:Int)+1<s.size:=Z;have g3':((m:Int)+1).toNat=m+1:=Z;have g2':(m:Int)<s.size:=by have:=HM.out;omega
    have yy:∀h,((s[m]'h).toNat:Int)=(bt s m:Int):=λh=>by rw[zL s m h]
    by_cases h95:bt s m=95
    .have h95':(bt s m:Int)=95:=Z;have hm1:(0:Int)<=(m:Int)+1:=Z;have zz:∀h,((s[m+1]'h).toNat:Int)=(bt s (m+1):Int):=λh=>by rw[zL s (m+1) h]
     have hdv:dval (bt s (m+1))<=99:=by unfold dval;split<;>(try split)<;>(try split)<;>omega
     have CV:=Hd (λw=>kM (bt s (m+1)) (yT s (m+1)) w);have HT2:Hid (dval (bt s (m+1))<b->rowAt b s n=2+rowAt b s (m+1)):=Hd λh=>by
      have e:=HM.out;subst e;exact HT.out g1 h95 h
     have HO2:Hid (¬dval (bt s (m+1))<b->rowAt b s n=1+rowAt b s m):=Hd λh=>by
      have e:=HM.out;subst e;exact HO.out λhh=>h hh.2.2
     clear HT HO;generalize bt s m=c at *;subst h95;generalize bt s (m+1)=d at *;generalize dval d=x at *;have CV':∀n,Calls Tryz.prog 170 #[.int .u8 (d:Int)] (w2.drewN n) λe w'=>e=.returned (.int .i64 (x:Nat))/\∃m,w'=w2.drewN m:=λn=>Calls.quiet_of_same ((CV.out _).mono λe w' h=>⟨h.1,h.2.symm⟩)
     have CC:=Hd CV';clear CV' CV;by_cases hx:x<b
     .have hx':(x:Int)<b:=Z;go_quiet (exact CC.out _);have hr3:=HR2.out.drewN nq;have HB3:=Hd (bdrewN HB2.out nq);clear HB2 CC HR2;generalize w2.drewN nq=w3 at *;have c2:=hr3.c2;have z2:=hr3.z2;have HR4:Hid (RW (w3.setCell ⟨w.heap.size+1+1,0,none⟩ (.int .i64 ((m:Int)+1))) w.heap.size s b ((m+1:Nat):Int)):=Hd (by rw[show((m+1:Nat):Int)=(m:Int)+1 by omega];exact hr3.set _);have HB4:=Hd (HB3.out.setCell (p:=⟨w.heap.size+1+1,0,none⟩) (by show w.heap.size<=w.heap.size+1+1;omega) (.int .i64 ((m:Int)+1)));clear hr3;go_wp2_with fail;go_roundw
      case rel=>exact⟨m+1,Z,by have:=HT2.out hx;have:=HE.out;have:=HM.out;omega,HR4.out,HB4.out⟩
      case measure=>rw[HR4.out.n,HR.out.n];have:=HM.out;omega
     .have hx':¬(x:Int)<b:=Z;go_quiet (exact CC.out _);have HR3:=Hd (HR2.out.drewN nq);have HB3:=Hd (bdrewN HB2.out nq);clear HB2 CC HR2;generalize w2.drewN nq=w3 at *;go_wp2_with fail;go_roundw
      case rel=>exact⟨m,Z,by have:=HO2.out hx;have:=HE.out;have:=HM.out;omega,HR3.out,HB3.out⟩
      case measure=>rw[HR3.out.n,HR.out.n];have:=HM.out;omega
    .have h95':¬(bt s m:Int)=95:=Z;have HO2:Hid (rowAt b s n=1+rowAt b s m):=Hd (by
      have e:=HM.out;subst e;exact HO.out λhh=>h95 hh.2.1)
     clear HT HO;generalize bt s m=c at *;go_quiet (fail);have HR3:=Hd (HR2.out.drewN nq);have HB3:=Hd (bdrewN HB2.out nq);clear HB2 HR2;generalize w2.drewN nq=w3 at *;go_wp2_with fail;go_roundw
     case rel=>exact⟨m,Z,by have:=HO2.out;have:=HE.out;have:=HM.out;omega,HR3.out,HB3.out⟩
     case measure=>rw[HR3.out.n,HR.out.n];have:=HM.out;omega
   .have g1':¬(m:Int)+1<s.size:=Z;have HO2:Hid (rowAt b s n=1+rowAt b s m):=Hd (by
     have e:=HM.out;subst e;exact HO.out λhh=>g1 hh.1)
    clear HT HO;go_quiet (fail);have HR3:=Hd (HR2.out.drewN nq);have HB3:=Hd (bdrewN HB2.out nq);clear HB2 HR2;generalize w2.drewN nq=w3 at *;go_wp2_with fail;go_roundw
    case rel=>exact⟨m,by have:=HM.out;omega,by have:=HO2.out;have:=HE.out;have:=HM.out;omega,HR3.out,HB3.out⟩
    case measure=>rw[HR3.out.n,HR.out.n];have:=HM.out;omega
theorem zBj(t:ByteArray)(i:Int)(k:Nat)(h:i=k)(hk:k<=t.size)(w:World) :
  (Instr.slice 9 (.string t) (some (.int .i64 i)) none none).run Tryz.prog w=.ok (.string (t.extract k t.size)) w:=by
 subst h;rw[run_slice_string_from_if _ _ t _ _ Tryz.underlying9,iP ⟨Z,Z⟩,Int.toNat_natCast]
theorem yP(s:ByteArray)(i:Nat):zA (s.extract i s.size)=(zA s).drop i:=by
 unfold zA;rw[xD,List.map_drop]
theorem zWo(s:ByteArray)(h:0<s.size):zA s=bt s 0::(zA s).drop 1:=by
 have:=kI s 0 h
 rwa [List.drop_zero]at this
theorem zEt(s:ByteArray)(h:0<s.size):(zA s).head?=some (bt s 0):=by rw[zWo s h];rfl
theorem zKv(s:ByteArray)(i:Nat)(h:s.size<=i):(zA s)[i]?=none:=List.getElem?_eq_none (by rw[zH];exact h)
theorem yAd(s:ByteArray)(h:s.size=0):zA s=[]:=List.eq_nil_of_length_eq_zero (by rw[zH];exact h)
theorem zDn(s:ByteArray)(h:s.size=0):s.toList.isEmpty=true:=by
 rw[ByteArray.toList_eq,List.isEmpty_iff_length_eq_zero,<-size_data];exact h
theorem zGz(s:ByteArray)(h:0<s.size):s.toList.isEmpty=false:=by
 rw[ByteArray.toList_eq,Bool.eq_false_iff];intro e;rw[List.isEmpty_iff_length_eq_zero,<-size_data]at e;omega
theorem zEu(s:ByteArray)(h:s.size=0):(s.toList==[])=true:=by
 rw[List.isEmpty_iff.1 (zDn s h)];rfl
theorem zHu(s:ByteArray)(h:0<s.size):(s.toList==[])=false:=by
 rw[bE];intro e;have:=zGz s h;rw[e]at this;cases this
theorem zWp(c1 c2 c:UInt8):Lib.indexByte [c1,c2] c=if c1=c then 0 else if c2=c then 1 else -1:=by
 by_cases h1:c1=c
 .simp[Lib.indexByte,h1]
 .by_cases h2:c2=c
  .simp[Lib.indexByte,h1,h2]
  .simp[Lib.indexByte,h1,h2]
theorem yAe(s:ByteArray)(i:Nat)(c:UInt8):(c=((bt s i:Int)).toNat.toUInt8)↔bt s i=c.toNat:=by
 have hl:=yT s i;rw[Int.toNat_natCast];constructor
 .intro h;rw[h];show bt s i=(UInt8.ofNat (bt s i)).toNat;rw[xU _ hl]
 .intro h;apply UInt8.toNat_inj.1;show c.toNat=(UInt8.ofNat (bt s i)).toNat;rw[xU _ hl,h]
theorem zDo(s:ByteArray)(c1 c2:UInt8)(hs:s.size<=2147483647)(w:World) :
  Calls Tryz.prog 206 #[.string s,.string ⟨#[c1,c2]⟩] w λe w'=>e=.returned (.int .i64 (powL c1.toNat c2.toNat (zA s):Nat))/\Below w.heap.size w w':=by
 have HQ:Hid (∀w' n,powL c1.toNat c2.toNat (zA s)=n->Below w.heap.size w w'->(λ(e:Ending) w'=>e=.returned (.int .i64 (powL c1.toNat c2.toNat (zA s):Nat))/\Below w.heap.size w w') (.returned (.int .i64 (n:Nat))) w'):=Hd λw' n h h2=>⟨by rw[h],h2⟩
 generalize(λ(e:Ending) w'=>e=.returned (.int .i64 (powL c1.toNat c2.toNat (zA s):Nat))/\Below w.heap.size w w')=Q at *;by_cases h0:s.size=0
 .have he:=zDn s h0;have hb:=zEu s h0;have HV:=Hd (show powL c1.toNat c2.toNat (zA s)=0 by rw[yAd s h0];rfl);go_enter Tryz.func206,Tryz.ntmps206;go_wp2_with fail;show Q (.returned (.int .i64 0)) _;exact HQ.out _ 0 HV.out (bR _ _)
 .have hpos:0<s.size:=Z;have hpos':(0:Int)<s.size:=Z;have he:=zGz s hpos;have hb:=zHu s hpos;have y0:∀h,((s[0]'h).toNat:Int)=(bt s 0:Int):=λh=>by rw[zL s 0 h]
  have CI:∀w,Calls Tryz.prog 162 #[.string ⟨#[c1,c2]⟩,.int .u8 (bt s 0:Int)] w λe w'=>e=.returned (.int .i64 (if bt s 0=c1.toNat then 0 else if bt s 0=c2.toNat then 1 else -1))/\w=w':=λw=>(Tryz.strings_IndexByte ⟨#[c1,c2]⟩ (bt s 0:Int) w).mono λe w' ⟨h1,h2⟩=>by
   refine⟨?_,h2.symm⟩;rw[h1];show Ending.returned (.int .i64 (Lib.indexByte [c1,c2] _))=_;rw[zWp];simp only[yAe]
  have hH:=zEt s hpos;by_cases hc:bt s 0=c1.toNat\/bt s 0=c2.toNat
  .have HV:Hid (powL c1.toNat c2.toNat (zA s)=if 0<rowL 10 ((zA s).drop (signed (zA s)))then signed (zA s)+rowL 10 ((zA s).drop (signed (zA s)))else 0):=Hd (by
    unfold powL;rw[iP (by rw[hH];simpa using hc)])
   have CI2:Hid (∀w,Calls Tryz.prog 162 #[.string ⟨#[c1,c2]⟩,.int .u8 (bt s 0:Int)] w λe w'=>(e=.returned (.int .i64 0)\/e=.returned (.int .i64 1))/\w=w'):=Hd λw=>(CI w).mono λe w' ⟨h1,h2⟩=>by
    refine⟨?_,h2⟩;rw[h1];by_cases h:bt s 0=c1.toNat
    .rw[iP h];exact Or.inl rfl
    .rw[iN h,iP (hc.resolve_left h)];exact Or.inr rfl
   clear CI hc hH;have CR:=Hd (λk w=>kC (s.extract k s.size) 10 Z (by rw[ByteArray.size_extract];omega) w);have hS:signed (zA s)=if 1<s.size/\(bt s 1=43\/bt s 1=45)then 2 else 1:=by
    unfold signed;by_cases h1:1<s.size
    .rw[fW s 1 h1];by_cases h2:bt s 1=43\/bt s 1=45
     .rw[iP (by simpa using h2),iP ⟨h1,h2⟩]
     .rw[iN (by simpa using h2),iN (λh=>h2 h.2)]
    .rw[zKv s 1 Z,iN Ob,iN (λh=>h1 h.1)]
   by_cases hsg:1<s.size/\(bt s 1=43\/bt s 1=45)
   .rw[iP hsg]at hS;rw[hS]at HV;obtain⟨h1,h2⟩:=hsg;have h1':(1:Int)<s.size:=Z;have h2':(2:Int)<=s.size:=Z;have y1:∀h,((s[1]'h).toNat:Int)=(bt s 1:Int):=λh=>by rw[zL s 1 h]
    have CR2:=Hd (CR.out 2);have hle:=jC 10 ((zA s).drop 2);rw [List.length_drop,zH] at hle;rw [yP] at CR2;clear CR hS;generalize rowL 10 ((zA s).drop 2)=k at *;generalize bt s 0=c at *;generalize bt s 1=d at *;rcases h2 with rfl | rfl;all_goals (
     go_enter Tryz.func206,Tryz.ntmps206;go_wp2_with fail;refine (CI2.out _).mono ?_;rintro e w1 ⟨he1,rfl⟩;rcases he1 with rfl | rfl;all_goals (
      go_wp2_with fail;refine(CR2.out _).mono ?_;rintro e w1 ⟨rfl,hb1⟩;have HB1:=Hd hb1;clear hb1;by_cases hk:0<k
      .have hk':(0:Int)<k:=Z;go_wp2_with fail;show Q (.returned (.int .i64 (2+(k:Int)))) _;rw[show 2+(k:Int)=((2+k:Nat):Int)by omega];exact HQ.out _ _ (by rw[HV.out,iP hk]) HB1.out
      .have hk':¬(0:Int)<k:=Z;go_wp2_with fail;show Q (.returned (.int .i64 0)) _;exact HQ.out _ 0 (by rw[HV.out,iN hk]) HB1.out))
   .rw[iN hsg]at hS;rw[hS]at HV;have CR2:=Hd (CR.out 1);have h1':(1:Int)<=s.size:=Z;have hle:=jC 10 ((zA s).drop 1);rw[List.length_drop,zH]at hle;rw[yP]at CR2;clear CR hS;generalize rowL 10 ((zA s).drop 1)=k at *;generalize bt s 0=c at *;by_cases h1:1<s.size
    .have h1'':(1:Int)<s.size:=Z;have y1:∀h,((s[1]'h).toNat:Int)=(bt s 1:Int):=λh=>by rw[zL s 1 h]
     have g1:¬(bt s 1:Int)=43:=λh=>hsg ⟨h1,Or.inl Z⟩
     have g2:¬(bt s 1:Int)=45:=λh=>hsg ⟨h1,Or.inr Z⟩
     have g1b:((bt s 1:Int)==43)=false:=by rw[bE];exact g1
     have g2b:((bt s 1:Int)==45)=false:=by rw[bE];exact g2
     clear hsg;generalize bt s 1=d at *;go_enter Tryz.func206,Tryz.ntmps206;go_wp2_with fail;refine (CI2.out _).mono ?_;rintro e w1 ⟨he1,rfl⟩;rcases he1 with rfl | rfl;all_goals (
      go_wp2_with fail;refine(CR2.out _).mono ?_;rintro e w1 ⟨rfl,hb1⟩;have HB1:=Hd hb1;clear hb1;by_cases hk:0<k
      .have hk':(0:Int)<k:=Z;go_wp2_with fail;show Q (.returned (.int .i64 (1+(k:Int)))) _;rw[show 1+(k:Int)=((1+k:Nat):Int)by omega];exact HQ.out _ _ (by rw[HV.out,iP hk]) HB1.out
      .have hk':¬(0:Int)<k:=Z;go_wp2_with fail;show Q (.returned (.int .i64 0)) _;exact HQ.out _ 0 (by rw[HV.out,iN hk]) HB1.out)
    ·have h1'':¬ (1:Int)<s.size:=Z;clear hsg;go_enter Tryz.func206,Tryz.ntmps206;go_wp2_with fail;refine (CI2.out _).mono ?_;rintro e w1 ⟨he1,rfl⟩;rcases he1 with rfl | rfl;all_goals (
      go_wp2_with fail;refine(CR2.out _).mono ?_;rintro e w1 ⟨rfl,hb1⟩;have HB1:=Hd hb1;clear hb1;by_cases hk:0<k
      .have hk':(0:Int)<k:=Z;go_wp2_with fail;show Q (.returned (.int .i64 (1+(k:Int)))) _;rw[show 1+(k:Int)=((1+k:Nat):Int)by omega];exact HQ.out _ _ (by rw[HV.out,iP hk]) HB1.out
      .have hk':¬(0:Int)<k:=Z;go_wp2_with fail;show Q (.returned (.int .i64 0)) _;exact HQ.out _ 0 (by rw[HV.out,iN hk]) HB1.out)
  .have HV:Hid (powL c1.toNat c2.toNat (zA s)=0):=Hd (by
    unfold powL;rw[iN (by rw[hH];simpa using hc)])
   have CI2:Hid (∀w,Calls Tryz.prog 162 #[.string ⟨#[c1,c2]⟩,.int .u8 (bt s 0:Int)] w λe w'=>e=.returned (.int .i64 (-1))/\w=w'):=Hd λw=>(CI w).mono λe w' ⟨h1,h2⟩=>by
    refine⟨?_,h2⟩;rw[h1,iN (λh=>hc (Or.inl h)),iN (λh=>hc (Or.inr h))]
   clear CI hc hH;generalize bt s 0=c at *;go_enter Tryz.func206,Tryz.ntmps206;go_wp2_with fail;refine(CI2.out _).mono ?_;rintro e w1 ⟨rfl,rfl⟩;go_wp2_with fail;show Q (.returned (.int .i64 0)) _;exact HQ.out _ 0 HV.out (bR _ _)
theorem zAi(c:UInt8)(l:List UInt8):Lib.hasPrefix l [c]=true↔l.head?=some c:=by
 unfold Lib.hasPrefix;cases l with
 |nil=>simp[List.isPrefixOf]
 |cons d t=>simp[List.isPrefixOf];exact eq_comm
def bareS(s:ByteArray):ByteArray:=⟨(Lib.trimPrefix s.data.toList [95]).toArray⟩
theorem zMj(s:ByteArray):s.data.toList.head?=some 95↔(zA s).head?=some 95:=by
 unfold zA;rw[List.head?_map];cases h:s.data.toList.head? with
 |none=>simp
 |some c =>
  simp only[Option.map_some,Option.some.injEq];constructor
  .rintro rfl;rfl
  .intro h;exact UInt8.toNat_inj.1 (by rw[h];rfl)
theorem zBx(s:ByteArray):zA (bareS s)=bare (zA s):=by
 unfold bareS bare Lib.trimPrefix;by_cases h:s.data.toList.head?=some 95
 .rw[iP ((zAi 95 _).2 h),iP ((zMj s).1 h)];unfold zA;try simp
 .rw[iN (λhh=>h ((zAi 95 _).1 hh)),iN (λhh=>h ((zMj s).2 hh))]
theorem zHv(s:ByteArray):(bareS s).size<=s.size:=by
 rw[<-zH,<-zH,zBx];unfold bare;split
 .simp
 .exact nR _
theorem zSe(b:Nat)(t:ByteArray):rowOK b (zA t)=(decide (0<t.size)&&decide (rowL b (zA t)=t.size)):=by
 rw[Bool.eq_iff_iff,zWr,zH];simp only[Bool.and_eq_true,decide_eq_true_eq];constructor
 .rintro⟨h1,h2⟩;refine⟨?_,h2⟩;rw[<-zH];exact List.length_pos_iff.2 h1
 .rintro⟨h1,h2⟩;refine⟨?_,h2⟩;rw[<-zH]at h1;exact List.length_pos_iff.1 h1
theorem zAj(s:ByteArray)(b:Nat)(hb:b<=16)(hs:s.size<=2147483647)(w:World) :
  Calls Tryz.prog 165 #[.string s,.int .i64 (b:Int)] w λe w'=>e=.returned (.int .u8 (wholeL b (zA s):Nat))/\Below w.heap.size w w':=by
 have HQ:Hid (∀w' n,wholeL b (zA s)=n->Below w.heap.size w w'->(λ(e:Ending) w'=>e=.returned (.int .u8 (wholeL b (zA s):Nat))/\Below w.heap.size w w') (.returned (.int .u8 (n:Nat))) w'):=Hd λw' n h h2=>⟨by rw[h],h2⟩
 generalize(λ(e:Ending) w'=>e=.returned (.int .u8 (wholeL b (zA s):Nat))/\Below w.heap.size w w')=Q at *;have CT:Hid (∀w,Calls Tryz.prog 204 #[.string s,.string ⟨#[95]⟩] w λe w'=>e=.returned (.string (bareS s))/\w'=w):=Hd λw=>Tryz.strings_TrimPrefix s ⟨#[95]⟩ w
 have HV:Hid (wholeL b (zA s)=if(decide (0<(bareS s).size)&&decide (rowL b (zA (bareS s))=(bareS s).size))=true then 3 else 0):=Hd (by
  unfold wholeL;rw[<-zBx,zSe])
 have hsz:=zHv s;generalize bareS s=t at *;have CR:=Hd (kC t b hb Z);by_cases h0:t.size=0
 .have he:=zDn t h0;have hb:=zEu t h0;go_enter Tryz.func165,Tryz.ntmps165;go_wp2_with fail;refine(CT.out _).mono ?_;rintro e w1 ⟨rfl,rfl⟩;go_wp2_with fail;show Q (.returned (.int .u8 0)) _;exact HQ.out _ 0 (by rw[HV.out];simp[h0]) (bR _ _)
 .have hpos:0<t.size:=Z;have he:=zGz t hpos;have hb:=zHu t hpos;have hle:=jC b (zA t);generalize rowL b (zA t)=k at *;by_cases hk:k=t.size
  .have hkb:((k:Int)==(t.size:Int))=true:=by rw[hk];simp
   go_enter Tryz.func165,Tryz.ntmps165;go_wp2_with fail;refine(CT.out _).mono ?_;rintro e w1 ⟨rfl,rfl⟩;go_wp2_with fail;refine(CR.out _).mono ?_;rintro e w1 ⟨rfl,hb1⟩;have HB1:=Hd hb1;have HV2:Hid (wholeL b (zA s)=3):=Hd (by rw[HV.out];simp[hk,hpos]);clear hb1 hk HV;go_wp2_with fail;show Q (.returned (.int .u8 3)) _;exact HQ.out _ 3 HV2.out HB1.out
  .have hkb:((k:Int)==(t.size:Int))=false:=by rw[bE];omega
   go_enter Tryz.func165,Tryz.ntmps165;go_wp2_with fail;refine(CT.out _).mono ?_;rintro e w1 ⟨rfl,rfl⟩;go_wp2_with fail;refine(CR.out _).mono ?_;rintro e w1 ⟨rfl,hb1⟩;have HB1:=Hd hb1;have HV2:Hid (wholeL b (zA s)=0):=Hd (by rw[HV.out];simp[hk]);have hk':¬(k:Int)=t.size:=Z;clear hb1 hk HV;go_wp2_with fail;show Q (.returned (.int .u8 0)) _;exact HQ.out _ 0 HV2.out HB1.out
theorem yR(t:ByteArray)(i:Int)(k:Nat)(h:i=k)(hk:k<=t.size)(w:World) :
  (Instr.slice 9 (.string t) (some (.int .i64 i)) none none).run Tryz.prog w=.ok (.string (t.extract k t.size)) w:=by
 subst h;rw[run_slice_string_from_if _ _ t _ _ Tryz.underlying9,iP ⟨Z,Z⟩,Int.toNat_natCast]
def sixF(ok u:Bool)(N K P len:Nat):Nat:=if ok=true then 3 else if N=0/\u=true then 0 else if K≠0/\N+(K-1)=0 then 0 else if K=0/\N=0 then 0 else if 0<P/\N+K+P=len then 4 else 0
def tenF(full one:Bool)(w8 N K P len:Nat):Nat:=if full=true then(if one=true then 3 else w8)else if K≠0/\N+(K-1)=0 then 0 else if 0<N+K/\0<K+P/\N+K+P=len then 4 else 0
theorem zDa{u:Bool}{N K P len:Nat}(h1:u=true->N≠0)(h2:¬(K≠0/\N+(K-1)=0))(h3:¬(K=0/\N=0))(h4:0<P)(h5:N+K+P=len):sixF false u N K P len=4:=by
 unfold sixF;rw[iN Ob,iN (λh=>h1 h.2 h.1),iN h2,iN h3,iP ⟨h4,h5⟩]
theorem vC{u:Bool}{N K P len:Nat}(h:(K≠0/\N+(K-1)=0)\/(K=0/\N=0)\/¬(0<P/\N+K+P=len)):sixF false u N K P len=0:=by
 unfold sixF;rw[iN Ob];split
 .rfl
 .split
  .rfl
  .split
   .rfl
   .rw[iN Z]
theorem zMk(s:ByteArray):Lib.hasPrefix s.data.toList [95]=decide ((zA s).head?=some 95):=by
 rw[Bool.eq_iff_iff,zAi,zMj,decide_eq_true_eq]
theorem yHm(s:ByteArray):zJ (zA s)=sixF (rowOK 16 (zA (bareS s))) (Lib.hasPrefix s.data.toList [95]) (rowL 16 (zA (bareS s))) (tailK 16 (zA (bareS s)))
  (powL 112 80 ((zA (bareS s)).drop (rowL 16 (zA (bareS s))+tailK 16 (zA (bareS s))))) (bareS s).size:=by
 unfold zJ sixF noDigit;rw[<-zBx,zH,zMk];simp only[decide_eq_true_eq]
theorem yEt(s:ByteArray):tenL (zA s)=tenF (decide (rowL 10 (zA s)=s.size/\0<rowL 10 (zA s))) (decide ((zA s).head?≠some 48\/rowL 10 (zA s)=1)) (wholeL 8 ((zA s).drop 1)) (rowL 10 (zA s)) (tailK 10 (zA s))
  (powL 101 69 ((zA s).drop (rowL 10 (zA s)+tailK 10 (zA s)))) s.size:=by
 unfold tenL tenF noDigit;rw[zH];simp only[decide_eq_true_eq]
theorem zKw(b:Nat)(t:ByteArray)(h:rowL b (zA t)<t.size)(hp:bt t (rowL b (zA t))=46):tailK b (zA t)=rowL b ((zA t).drop (rowL b (zA t)+1))+1:=by
 unfold tailK;rw[fW t _ h,iP (by rw[hp])]
theorem zPa(b:Nat)(t:ByteArray)(h:¬(rowL b (zA t)<t.size/\bt t (rowL b (zA t))=46)):tailK b (zA t)=0:=by
 unfold tailK;rw[iN];intro hh;by_cases hl:rowL b (zA t)<t.size
 .rw[fW t _ hl]at hh;exact h ⟨hl,by simpa using hh⟩
 .rw[zKv t _ Z]at hh;cases hh
theorem zHw(s:ByteArray)(hs:s.size<=2147483647)(w:World) :
  Calls Tryz.prog 166 #[.string s] w λe w'=>e=.returned (.int .u8 (zJ (zA s):Nat))/\Below w.heap.size w w':=by
 have HQ:Hid (∀w' n,zJ (zA s)=n->Below w.heap.size w w'->(λ(e:Ending) w'=>e=.returned (.int .u8 (zJ (zA s):Nat))/\Below w.heap.size w w') (.returned (.int .u8 (n:Nat))) w'):=Hd λw' n h h2=>⟨by rw[h],h2⟩
 generalize(λ(e:Ending) w'=>e=.returned (.int .u8 (zJ (zA s):Nat))/\Below w.heap.size w w')=Q at *;have CT:Hid (∀w,Calls Tryz.prog 204 #[.string s,.string ⟨#[95]⟩] w λe w'=>e=.returned (.string (bareS s))/\w'=w):=Hd λw=>Tryz.strings_TrimPrefix s ⟨#[95]⟩ w
 have CH:Hid (∀w,Calls Tryz.prog 205 #[.string s,.string ⟨#[95]⟩] w λe w'=>e=.returned (.bool (Lib.hasPrefix s.data.toList [95]))/\w'=w):=Hd λw=>Tryz.strings_HasPrefix s ⟨#[95]⟩ w
 have CW:=zAj s 16 Z hs w;have HV:=Hd (yHm s);have hwl:wholeL 16 (zA s)=if rowOK 16 (zA (bareS s))=true then 3 else 0:=by unfold wholeL;rw[<-zBx]
 rw[hwl]at CW;have hsz:=zHv s;generalize Lib.hasPrefix s.data.toList [95]=u at *;generalize bareS s=t at *;have CR:=Hd (λw=>kC t 16 Z Z w);have CR2:=Hd (λi w=>kC (t.extract i t.size) 16 Z (by rw[ByteArray.size_extract];omega) w);have CP:=Hd (λi w=>zDo (t.extract i t.size) 112 80 (by rw[ByteArray.size_extract];omega) w);have hN:=jC 16 (zA t);rw[zH]at hN;have hKle:=zPd 16 (zA t);rw[zH]at hKle;have HKy:=Hd (zKw 16 t);have HKn:=Hd (zPa 16 t);generalize rowOK 16 (zA t)=ok at *;clear hwl;cases ok with
 |true =>
  rw[iP rfl]at CW;have CWh:=Hd CW;clear CW;go_enter Tryz.func166,Tryz.ntmps166;go_wp2_with fail;refine CWh.out.mono ?_;rintro e w1 ⟨rfl,hb1⟩;have HB1:=Hd hb1;clear hb1;go_wp2_with fail;show Q (.returned (.int .u8 3)) _;exact HQ.out _ 3 (by rw[HV.out];rfl) HB1.out
 |false =>
  rw[iN Ob]at CW;have CWh:=Hd CW;clear CW;generalize hNe:rowL 16 (zA t)=N at *;have HNe:=Hd hNe;clear hNe;cases u with
  |true =>
   by_cases hN0:N=0
   .subst hN0;have HV2:Hid (zJ (zA s)=0):=Hd (by rw[HV.out];unfold sixF;simp);clear HV HKy HKn;go_enter Tryz.func166,Tryz.ntmps166;go_wp2_with fail;refine(CWh.out).mono ?_;rintro e w1 ⟨rfl,hb1⟩;have HB1:=Hd (hb1);clear hb1;go_wp2_with fail;refine(CH.out _).mono ?_;rintro e w2 ⟨rfl,rfl⟩;go_wp2_with fail;refine(CT.out _).mono ?_;rintro e w2 ⟨rfl,rfl⟩;go_wp2_with fail;refine mB (CR.out _) HB1.out λw3 HB3=>?_;go_wp2_with fail;show Q (.returned (.int .u8 0)) _;exact HQ.out _ 0 HV2.out HB3.out
   .have hNb:((N:Int)==0)=false:=by rw[bE];omega
    have hNz:¬(N:Int)=0:=Z;have HN0:=Hd hN0;clear hN0;by_cases hpt:N<t.size/\bt t N=46
    .obtain⟨hlt,hpt⟩:=hpt;have hK:=HKy.out hlt hpt;clear HKy HKn;have CR3:=CR2.out (N+1);rw[yP]at CR3;generalize rowL 16 ((zA t).drop (N+1))=k0 at *;have CRh:=Hd CR3;have CPh:=CP.out (N+(k0+1));rw[yP]at CPh;rw[hK]at HV hKle;clear CR3 CR2 CP hK;have CP2:Hid (∀w,Calls Tryz.prog 206 #[.string (t.extract (N+(k0+1)) t.size),.string ⟨#[112,80]⟩] w λe w'=>e=.returned (.int .i64 (powL 112 80 ((zA t).drop (N+(k0+1))):Nat))/\Below w.heap.size w w'):=Hd CPh;clear CPh;have hPle:=fD 112 80 ((zA t).drop (N+(k0+1)));rw[List.length_drop,zH]at hPle;generalize powL 112 80 ((zA t).drop (N+(k0+1)))=P at *;have hlt':(N:Int)<t.size:=Z;have hN0':(0:Int)<=N:=Z;have yN:∀h,((t[N]'h).toNat:Int)=46:=λh=>by rw[zL t N h,hpt];rfl
     have hs1:=λw=>yR t ((N:Int)+1) (N+1) Z Z w
     have hs2:=λw=>yR t ((N:Int)+((k0:Int)+1)) (N+(k0+1)) Z Z w
     by_cases hz:N+k0=0
     .have hzb:(((N:Int)+(k0:Int))==0)=true:=by simp;omega
      have HV2:Hid (zJ (zA s)=0):=Hd (by have hz0:=HN0.out;rw[HV.out];exact vC Z);have HZ:=Hd hz;clear HV hpt hz;go_enter Tryz.func166,Tryz.ntmps166;go_wp2_with fail;refine(CWh.out).mono ?_;rintro e w1 ⟨rfl,hb1⟩;have HB1:=Hd (hb1);clear hb1;go_wp2_with fail;refine(CH.out _).mono ?_;rintro e w2 ⟨rfl,rfl⟩;go_wp2_with fail;refine(CT.out _).mono ?_;rintro e w2 ⟨rfl,rfl⟩;go_wp2_with fail;refine mB (CR.out _) HB1.out λw3 HB3=>?_;go_wp2_with fail;refine mB (CRh.out _) HB3.out λw4 HB4=>?_;go_wp2_with fail;show Q (.returned (.int .u8 0)) _;exact HQ.out _ 0 HV2.out HB4.out
     .have hzb:(((N:Int)+(k0:Int))==0)=false:=by rw[bE];omega
      have hzn:¬((N:Int)+(k0:Int))=0:=Z;generalize hKe:k0+1=K at *;have HKe:=Hd hKe;clear hpt;go_enter Tryz.func166,Tryz.ntmps166;go_wp2_with fail;refine(CWh.out).mono ?_;rintro e w1 ⟨rfl,hb1⟩;have HB1:=Hd (hb1);clear hb1;go_wp2_with fail;refine(CH.out _).mono ?_;rintro e w2 ⟨rfl,rfl⟩;go_wp2_with fail;refine(CT.out _).mono ?_;rintro e w2 ⟨rfl,rfl⟩;go_wp2_with fail;refine mB (CR.out _) HB1.out λw3 HB3=>?_;go_wp2_with fail;refine mB (CRh.out _) HB3.out λw4 HB4=>?_;go_wp2_with fail;refine mB (CP2.out _) HB4.out λw5 HB5=>?_;have hkz:((k0:Int)+1)=(K:Int):=Z;by_cases hp:0<P
      .have hp1:(0:Int)<P:=Z;by_cases hl:N+K+P=t.size
       .have hl1:(((N:Int)+((k0:Int)+1)+P)==(t.size:Int))=true:=by simp;omega
        have HV2:Hid (zJ (zA s)=4):=Hd (by have hz0:=HN0.out;rw[HV.out];exact zDa (by first|(intro _;omega)|(intro h;cases h)) Z Z Z Z);clear hl HV;go_wp2_with fail;show Q (.returned (.int .u8 4)) _;exact HQ.out _ 4 HV2.out HB5.out
       .have hl1:(((N:Int)+((k0:Int)+1)+P)==(t.size:Int))=false:=by rw[bE];omega
        have HV2:Hid (zJ (zA s)=0):=Hd (by have hz0:=HN0.out;rw[HV.out];exact vC Z);clear hl HV;go_wp2_with fail;show Q (.returned (.int .u8 0)) _;exact HQ.out _ 0 HV2.out HB5.out
      .have hp1:¬(0:Int)<P:=Z;have HV2:Hid (zJ (zA s)=0):=Hd (by have hz0:=HN0.out;rw[HV.out];exact vC Z);clear HV;go_wp2_with fail;show Q (.returned (.int .u8 0)) _;exact HQ.out _ 0 HV2.out HB5.out
    .have hK:=HKn.out hpt;rw[hK]at HV hKle;clear HKy HKn hK CR2;have CPh:=CP.out N;rw[yP]at CPh;clear CP;have CP2:Hid (∀w,Calls Tryz.prog 206 #[.string (t.extract N t.size),.string ⟨#[112,80]⟩] w λe w'=>e=.returned (.int .i64 (powL 112 80 ((zA t).drop N):Nat))/\Below w.heap.size w w'):=Hd CPh;clear CPh;have hPle:=fD 112 80 ((zA t).drop N);rw[List.length_drop,zH]at hPle;rw[Nat.add_zero]at HV;generalize powL 112 80 ((zA t).drop N)=P at *;have hN0':(0:Int)<=N:=Z;have hs2:=λw=>yR t (N:Int) N rfl hN w
     by_cases hlt:N<t.size
     .have hlt':(N:Int)<t.size:=Z;have yN:∀h,((t[N]'h).toNat:Int)=(bt t N:Int):=λh=>by rw[zL t N h]
      have hne:bt t N≠46:=λh=>hpt ⟨hlt,h⟩
      have hne1:¬(bt t N:Int)=46:=Z;have hneb:((bt t N:Int)==46)=false:=by rw[bE];exact hne1
      clear hpt;generalize bt t N=cN at *;go_enter Tryz.func166,Tryz.ntmps166;go_wp2_with fail;refine(CWh.out).mono ?_;rintro e w1 ⟨rfl,hb1⟩;have HB1:=Hd (hb1);clear hb1;go_wp2_with fail;refine(CH.out _).mono ?_;rintro e w2 ⟨rfl,rfl⟩;go_wp2_with fail;refine(CT.out _).mono ?_;rintro e w2 ⟨rfl,rfl⟩;go_wp2_with fail;refine mB (CR.out _) HB1.out λw3 HB3=>?_;go_wp2_with fail;refine mB (CP2.out _) HB3.out λw5 HB5=>?_;by_cases hp:0<P
      .have hp1:(0:Int)<P:=Z;by_cases hl:N+P=t.size
       .have hl1:(((N:Int)+(P:Int))==(t.size:Int))=true:=by simp;omega
        have HV2:Hid (zJ (zA s)=4):=Hd (by have hz0:=HN0.out;rw[HV.out];exact zDa (by first|(intro _;omega)|(intro h;cases h)) Z Z Z Z);clear hl HV;go_wp2_with fail;show Q (.returned (.int .u8 4)) _;exact HQ.out _ 4 HV2.out HB5.out
       .have hl1:(((N:Int)+(P:Int))==(t.size:Int))=false:=by rw[bE];omega
        have hl2:¬((N:Int)+(P:Int))=(t.size:Int):=Z;have HV2:Hid (zJ (zA s)=0):=Hd (by have hz0:=HN0.out;rw[HV.out];exact vC Z);clear hl HV;go_wp2_with fail;show Q (.returned (.int .u8 0)) _;exact HQ.out _ 0 HV2.out HB5.out
      .have hp1:¬(0:Int)<P:=Z;have HV2:Hid (zJ (zA s)=0):=Hd (by have hz0:=HN0.out;rw[HV.out];exact vC Z);clear HV;go_wp2_with fail;show Q (.returned (.int .u8 0)) _;exact HQ.out _ 0 HV2.out HB5.out
     .have hlt':¬(N:Int)<t.size:=Z;clear hpt;go_enter Tryz.func166,Tryz.ntmps166;go_wp2_with fail;refine(CWh.out).mono ?_;rintro e w1 ⟨rfl,hb1⟩;have HB1:=Hd (hb1);clear hb1;go_wp2_with fail;refine(CH.out _).mono ?_;rintro e w2 ⟨rfl,rfl⟩;go_wp2_with fail;refine(CT.out _).mono ?_;rintro e w2 ⟨rfl,rfl⟩;go_wp2_with fail;refine mB (CR.out _) HB1.out λw3 HB3=>?_;go_wp2_with fail;refine mB (CP2.out _) HB3.out λw5 HB5=>?_;by_cases hp:0<P
      .have hp1:(0:Int)<P:=Z;by_cases hl:N+P=t.size
       .have hl1:(((N:Int)+(P:Int))==(t.size:Int))=true:=by simp;omega
        have HV2:Hid (zJ (zA s)=4):=Hd (by have hz0:=HN0.out;rw[HV.out];exact zDa (by first|(intro _;omega)|(intro h;cases h)) Z Z Z Z);clear hl HV;go_wp2_with fail;show Q (.returned (.int .u8 4)) _;exact HQ.out _ 4 HV2.out HB5.out
       .have hl1:(((N:Int)+(P:Int))==(t.size:Int))=false:=by rw[bE];omega
        have hl2:¬((N:Int)+(P:Int))=(t.size:Int):=Z;have HV2:Hid (zJ (zA s)=0):=Hd (by have hz0:=HN0.out;rw[HV.out];exact vC Z);clear hl HV;go_wp2_with fail;show Q (.returned (.int .u8 0)) _;exact HQ.out _ 0 HV2.out HB5.out
      .have hp1:¬(0:Int)<P:=Z;have HV2:Hid (zJ (zA s)=0):=Hd (by have hz0:=HN0.out;rw[HV.out];exact vC Z);clear HV;go_wp2_with fail;show Q (.returned (.int .u8 0)) _;exact HQ.out _ 0 HV2.out HB5.out
  |false =>
   by_cases hN0:N=0
   .have hNb:((N:Int)==0)=true:=by simp;omega
    have HN0:=Hd hN0;clear hN0;by_cases hpt:N<t.size/\bt t N=46
    .obtain⟨hlt,hpt⟩:=hpt;have hK:=HKy.out hlt hpt;clear HKy HKn;have CR3:=CR2.out (N+1);rw[yP]at CR3;generalize rowL 16 ((zA t).drop (N+1))=k0 at *;have CRh:=Hd CR3;have CPh:=CP.out (N+(k0+1));rw[yP]at CPh;rw[hK]at HV hKle;clear CR3 CR2 CP hK;have CP2:Hid (∀w,Calls Tryz.prog 206 #[.string (t.extract (N+(k0+1)) t.size),.string ⟨#[112,80]⟩] w λe w'=>e=.returned (.int .i64 (powL 112 80 ((zA t).drop (N+(k0+1))):Nat))/\Below w.heap.size w w'):=Hd CPh;clear CPh;have hPle:=fD 112 80 ((zA t).drop (N+(k0+1)));rw[List.length_drop,zH]at hPle;generalize powL 112 80 ((zA t).drop (N+(k0+1)))=P at *;have hlt':(N:Int)<t.size:=Z;have hN0':(0:Int)<=N:=Z;have yN:∀h,((t[N]'h).toNat:Int)=46:=λh=>by rw[zL t N h,hpt];rfl
     have hs1:=λw=>yR t ((N:Int)+1) (N+1) Z Z w
     have hs2:=λw=>yR t ((N:Int)+((k0:Int)+1)) (N+(k0+1)) Z Z w
     by_cases hz:N+k0=0
     .have hzb:(((N:Int)+(k0:Int))==0)=true:=by simp;omega
      have HV2:Hid (zJ (zA s)=0):=Hd (by have hz0:=HN0.out;rw[HV.out];exact vC Z);have HZ:=Hd hz;clear HV hpt hz;go_enter Tryz.func166,Tryz.ntmps166;go_wp2_with fail;refine(CWh.out).mono ?_;rintro e w1 ⟨rfl,hb1⟩;have HB1:=Hd (hb1);clear hb1;go_wp2_with fail;refine(CH.out _).mono ?_;rintro e w2 ⟨rfl,rfl⟩;go_wp2_with fail;refine(CT.out _).mono ?_;rintro e w2 ⟨rfl,rfl⟩;go_wp2_with fail;refine mB (CR.out _) HB1.out λw3 HB3=>?_;go_wp2_with fail;refine mB (CRh.out _) HB3.out λw4 HB4=>?_;go_wp2_with fail;show Q (.returned (.int .u8 0)) _;exact HQ.out _ 0 HV2.out HB4.out
     .have hzb:(((N:Int)+(k0:Int))==0)=false:=by rw[bE];omega
      have hzn:¬((N:Int)+(k0:Int))=0:=Z;generalize hKe:k0+1=K at *;have HKe:=Hd hKe;clear hpt;go_enter Tryz.func166,Tryz.ntmps166;go_wp2_with fail;refine(CWh.out).mono ?_;rintro e w1 ⟨rfl,hb1⟩;have HB1:=Hd (hb1);clear hb1;go_wp2_with fail;refine(CH.out _).mono ?_;rintro e w2 ⟨rfl,rfl⟩;go_wp2_with fail;refine(CT.out _).mono ?_;rintro e w2 ⟨rfl,rfl⟩;go_wp2_with fail;refine mB (CR.out _) HB1.out λw3 HB3=>?_;go_wp2_with fail;refine mB (CRh.out _) HB3.out λw4 HB4=>?_;go_wp2_with fail;refine mB (CP2.out _) HB4.out λw5 HB5=>?_;have hkz:((k0:Int)+1)=(K:Int):=Z;by_cases hp:0<P
      .have hp1:(0:Int)<P:=Z;by_cases hl:N+K+P=t.size
       .have hl1:(((N:Int)+((k0:Int)+1)+P)==(t.size:Int))=true:=by simp;omega
        have HV2:Hid (zJ (zA s)=4):=Hd (by have hz0:=HN0.out;rw[HV.out];exact zDa (by first|(intro _;omega)|(intro h;cases h)) Z Z Z Z);clear hl HV;go_wp2_with fail;show Q (.returned (.int .u8 4)) _;exact HQ.out _ 4 HV2.out HB5.out
       .have hl1:(((N:Int)+((k0:Int)+1)+P)==(t.size:Int))=false:=by rw[bE];omega
        have HV2:Hid (zJ (zA s)=0):=Hd (by have hz0:=HN0.out;rw[HV.out];exact vC Z);clear hl HV;go_wp2_with fail;show Q (.returned (.int .u8 0)) _;exact HQ.out _ 0 HV2.out HB5.out
      .have hp1:¬(0:Int)<P:=Z;have HV2:Hid (zJ (zA s)=0):=Hd (by have hz0:=HN0.out;rw[HV.out];exact vC Z);clear HV;go_wp2_with fail;show Q (.returned (.int .u8 0)) _;exact HQ.out _ 0 HV2.out HB5.out
    .have hK:=HKn.out hpt;rw[hK]at HV hKle;clear HKy HKn hK CR2;have CPh:=CP.out N;rw[yP]at CPh;clear CP;have CP2:Hid (∀w,Calls Tryz.prog 206 #[.string (t.extract N t.size),.string ⟨#[112,80]⟩] w λe w'=>e=.returned (.int .i64 (powL 112 80 ((zA t).drop N):Nat))/\Below w.heap.size w w'):=Hd CPh;clear CPh;have hPle:=fD 112 80 ((zA t).drop N);rw[List.length_drop,zH]at hPle;rw[Nat.add_zero]at HV;generalize powL 112 80 ((zA t).drop N)=P at *;have hN0':(0:Int)<=N:=Z;have hs2:=λw=>yR t (N:Int) N rfl hN w
     by_cases hlt:N<t.size
     .have hlt':(N:Int)<t.size:=Z;have yN:∀h,((t[N]'h).toNat:Int)=(bt t N:Int):=λh=>by rw[zL t N h]
      have hne:bt t N≠46:=λh=>hpt ⟨hlt,h⟩
      have hne1:¬(bt t N:Int)=46:=Z;have hneb:((bt t N:Int)==46)=false:=by rw[bE];exact hne1
      clear hpt;generalize bt t N=cN at *;have HV2:Hid (zJ (zA s)=0):=Hd (by have hz0:=HN0.out;rw[HV.out];exact vC Z);clear HV;go_enter Tryz.func166,Tryz.ntmps166;go_wp2_with fail;refine(CWh.out).mono ?_;rintro e w1 ⟨rfl,hb1⟩;have HB1:=Hd (hb1);clear hb1;go_wp2_with fail;refine(CH.out _).mono ?_;rintro e w2 ⟨rfl,rfl⟩;go_wp2_with fail;refine(CT.out _).mono ?_;rintro e w2 ⟨rfl,rfl⟩;go_wp2_with fail;refine mB (CR.out _) HB1.out λw3 HB3=>?_;go_wp2_with fail;show Q (.returned (.int .u8 0)) _;exact HQ.out _ 0 HV2.out HB3.out
     .have hlt':¬(N:Int)<t.size:=Z;clear hpt;have HV2:Hid (zJ (zA s)=0):=Hd (by have hz0:=HN0.out;rw[HV.out];exact vC Z);clear HV;go_enter Tryz.func166,Tryz.ntmps166;go_wp2_with fail;refine(CWh.out).mono ?_;rintro e w1 ⟨rfl,hb1⟩;have HB1:=Hd (hb1);clear hb1;go_wp2_with fail;refine(CH.out _).mono ?_;rintro e w2 ⟨rfl,rfl⟩;go_wp2_with fail;refine(CT.out _).mono ?_;rintro e w2 ⟨rfl,rfl⟩;go_wp2_with fail;refine mB (CR.out _) HB1.out λw3 HB3=>?_;go_wp2_with fail;show Q (.returned (.int .u8 0)) _;exact HQ.out _ 0 HV2.out HB3.out
   .have hNb:((N:Int)==0)=false:=by rw[bE];omega
    have hNz:¬(N:Int)=0:=Z;have HN0:=Hd hN0;clear hN0;by_cases hpt:N<t.size/\bt t N=46
    .obtain⟨hlt,hpt⟩:=hpt;have hK:=HKy.out hlt hpt;clear HKy HKn;have CR3:=CR2.out (N+1);rw[yP]at CR3;generalize rowL 16 ((zA t).drop (N+1))=k0 at *;have CRh:=Hd CR3;have CPh:=CP.out (N+(k0+1));rw[yP]at CPh;rw[hK]at HV hKle;clear CR3 CR2 CP hK;have CP2:Hid (∀w,Calls Tryz.prog 206 #[.string (t.extract (N+(k0+1)) t.size),.string ⟨#[112,80]⟩] w λe w'=>e=.returned (.int .i64 (powL 112 80 ((zA t).drop (N+(k0+1))):Nat))/\Below w.heap.size w w'):=Hd CPh;clear CPh;have hPle:=fD 112 80 ((zA t).drop (N+(k0+1)));rw[List.length_drop,zH]at hPle;generalize powL 112 80 ((zA t).drop (N+(k0+1)))=P at *;have hlt':(N:Int)<t.size:=Z;have hN0':(0:Int)<=N:=Z;have yN:∀h,((t[N]'h).toNat:Int)=46:=λh=>by rw[zL t N h,hpt];rfl
     have hs1:=λw=>yR t ((N:Int)+1) (N+1) Z Z w
     have hs2:=λw=>yR t ((N:Int)+((k0:Int)+1)) (N+(k0+1)) Z Z w
     by_cases hz:N+k0=0
     .have hzb:(((N:Int)+(k0:Int))==0)=true:=by simp;omega
      have HV2:Hid (zJ (zA s)=0):=Hd (by have hz0:=HN0.out;rw[HV.out];exact vC Z);have HZ:=Hd hz;clear HV hpt hz;go_enter Tryz.func166,Tryz.ntmps166;go_wp2_with fail;refine(CWh.out).mono ?_;rintro e w1 ⟨rfl,hb1⟩;have HB1:=Hd (hb1);clear hb1;go_wp2_with fail;refine(CH.out _).mono ?_;rintro e w2 ⟨rfl,rfl⟩;go_wp2_with fail;refine(CT.out _).mono ?_;rintro e w2 ⟨rfl,rfl⟩;go_wp2_with fail;refine mB (CR.out _) HB1.out λw3 HB3=>?_;go_wp2_with fail;refine mB (CRh.out _) HB3.out λw4 HB4=>?_;go_wp2_with fail;show Q (.returned (.int .u8 0)) _;exact HQ.out _ 0 HV2.out HB4.out
     .have hzb:(((N:Int)+(k0:Int))==0)=false:=by rw[bE];omega
      have hzn:¬((N:Int)+(k0:Int))=0:=Z;generalize hKe:k0+1=K at *;have HKe:=Hd hKe;clear hpt;go_enter Tryz.func166,Tryz.ntmps166;go_wp2_with fail;refine(CWh.out).mono ?_;rintro e w1 ⟨rfl,hb1⟩;have HB1:=Hd (hb1);clear hb1;go_wp2_with fail;refine(CH.out _).mono ?_;rintro e w2 ⟨rfl,rfl⟩;go_wp2_with fail;refine(CT.out _).mono ?_;rintro e w2 ⟨rfl,rfl⟩;go_wp2_with fail;refine mB (CR.out _) HB1.out λw3 HB3=>?_;go_wp2_with fail;refine mB (CRh.out _) HB3.out λw4 HB4=>?_;go_wp2_with fail;refine mB (CP2.out _) HB4.out λw5 HB5=>?_;have hkz:((k0:Int)+1)=(K:Int):=Z;by_cases hp:0<P
      .have hp1:(0:Int)<P:=Z;by_cases hl:N+K+P=t.size
       .have hl1:(((N:Int)+((k0:Int)+1)+P)==(t.size:Int))=true:=by simp;omega
        have HV2:Hid (zJ (zA s)=4):=Hd (by have hz0:=HN0.out;rw[HV.out];exact zDa (by first|(intro _;omega)|(intro h;cases h)) Z Z Z Z);clear hl HV;go_wp2_with fail;show Q (.returned (.int .u8 4)) _;exact HQ.out _ 4 HV2.out HB5.out
       .have hl1:(((N:Int)+((k0:Int)+1)+P)==(t.size:Int))=false:=by rw[bE];omega
        have HV2:Hid (zJ (zA s)=0):=Hd (by have hz0:=HN0.out;rw[HV.out];exact vC Z);clear hl HV;go_wp2_with fail;show Q (.returned (.int .u8 0)) _;exact HQ.out _ 0 HV2.out HB5.out
      .have hp1:¬(0:Int)<P:=Z;have HV2:Hid (zJ (zA s)=0):=Hd (by have hz0:=HN0.out;rw[HV.out];exact vC Z);clear HV;go_wp2_with fail;show Q (.returned (.int .u8 0)) _;exact HQ.out _ 0 HV2.out HB5.out
    .have hK:=HKn.out hpt;rw[hK]at HV hKle;clear HKy HKn hK CR2;have CPh:=CP.out N;rw[yP]at CPh;clear CP;have CP2:Hid (∀w,Calls Tryz.prog 206 #[.string (t.extract N t.size),.string ⟨#[112,80]⟩] w λe w'=>e=.returned (.int .i64 (powL 112 80 ((zA t).drop N):Nat))/\Below w.heap.size w w'):=Hd CPh;clear CPh;have hPle:=fD 112 80 ((zA t).drop N);rw[List.length_drop,zH]at hPle;rw[Nat.add_zero]at HV;generalize powL 112 80 ((zA t).drop N)=P at *;have hN0':(0:Int)<=N:=Z;have hs2:=λw=>yR t (N:Int) N rfl hN w
     by_cases hlt:N<t.size
     .have hlt':(N:Int)<t.size:=Z;have yN:∀h,((t[N]'h).toNat:Int)=(bt t N:Int):=λh=>by rw[zL t N h]
      have hne:bt t N≠46:=λh=>hpt ⟨hlt,h⟩
      have hne1:¬(bt t N:Int)=46:=Z;have hneb:((bt t N:Int)==46)=false:=by rw[bE];exact hne1
      clear hpt;generalize bt t N=cN at *;go_enter Tryz.func166,Tryz.ntmps166;go_wp2_with fail;refine(CWh.out).mono ?_;rintro e w1 ⟨rfl,hb1⟩;have HB1:=Hd (hb1);clear hb1;go_wp2_with fail;refine(CH.out _).mono ?_;rintro e w2 ⟨rfl,rfl⟩;go_wp2_with fail;refine(CT.out _).mono ?_;rintro e w2 ⟨rfl,rfl⟩;go_wp2_with fail;refine mB (CR.out _) HB1.out λw3 HB3=>?_;go_wp2_with fail;refine mB (CP2.out _) HB3.out λw5 HB5=>?_;by_cases hp:0<P
      .have hp1:(0:Int)<P:=Z;by_cases hl:N+P=t.size
       .have hl1:(((N:Int)+(P:Int))==(t.size:Int))=true:=by simp;omega
        have HV2:Hid (zJ (zA s)=4):=Hd (by have hz0:=HN0.out;rw[HV.out];exact zDa (by first|(intro _;omega)|(intro h;cases h)) Z Z Z Z);clear hl HV;go_wp2_with fail;show Q (.returned (.int .u8 4)) _;exact HQ.out _ 4 HV2.out HB5.out
       .have hl1:(((N:Int)+(P:Int))==(t.size:Int))=false:=by rw[bE];omega
        have hl2:¬((N:Int)+(P:Int))=(t.size:Int):=Z;have HV2:Hid (zJ (zA s)=0):=Hd (by have hz0:=HN0.out;rw[HV.out];exact vC Z);clear hl HV;go_wp2_with fail;show Q (.returned (.int .u8 0)) _;exact HQ.out _ 0 HV2.out HB5.out
      .have hp1:¬(0:Int)<P:=Z;have HV2:Hid (zJ (zA s)=0):=Hd (by have hz0:=HN0.out;rw[HV.out];exact vC Z);clear HV;go_wp2_with fail;show Q (.returned (.int .u8 0)) _;exact HQ.out _ 0 HV2.out HB5.out
     .have hlt':¬(N:Int)<t.size:=Z;clear hpt;go_enter Tryz.func166,Tryz.ntmps166;go_wp2_with fail;refine(CWh.out).mono ?_;rintro e w1 ⟨rfl,hb1⟩;have HB1:=Hd (hb1);clear hb1;go_wp2_with fail;refine(CH.out _).mono ?_;rintro e w2 ⟨rfl,rfl⟩;go_wp2_with fail;refine(CT.out _).mono ?_;rintro e w2 ⟨rfl,rfl⟩;go_wp2_with fail;refine mB (CR.out _) HB1.out λw3 HB3=>?_;go_wp2_with fail;refine mB (CP2.out _) HB3.out λw5 HB5=>?_;by_cases hp:0<P
      .have hp1:(0:Int)<P:=Z;by_cases hl:N+P=t.size
       .have hl1:(((N:Int)+(P:Int))==(t.size:Int))=true:=by simp;omega
        have HV2:Hid (zJ (zA s)=4):=Hd (by have hz0:=HN0.out;rw[HV.out];exact zDa (by first|(intro _;omega)|(intro h;cases h)) Z Z Z Z);clear hl HV;go_wp2_with fail;show Q (.returned (.int .u8 4)) _;exact HQ.out _ 4 HV2.out HB5.out
       .have hl1:(((N:Int)+(P:Int))==(t.size:Int))=false:=by rw[bE];omega
        have hl2:¬((N:Int)+(P:Int))=(t.size:Int):=Z;have HV2:Hid (zJ (zA s)=0):=Hd (by have hz0:=HN0.out;rw[HV.out];exact vC Z);clear hl HV;go_wp2_with fail;show Q (.returned (.int .u8 0)) _;exact HQ.out _ 0 HV2.out HB5.out
      .have hp1:¬(0:Int)<P:=Z;have HV2:Hid (zJ (zA s)=0):=Hd (by have hz0:=HN0.out;rw[HV.out];exact vC Z);clear HV;go_wp2_with fail;show Q (.returned (.int .u8 0)) _;exact HQ.out _ 0 HV2.out HB5.out
theorem yAf{one:Bool}{w8 N K P len:Nat}(h2:¬(K≠0/\N+(K-1)=0))(h3:0<N+K)(h4:0<K+P)(h5:N+K+P=len):tenF false one w8 N K P len=4:=by
 unfold tenF;rw[iN Ob,iN h2,iP ⟨h3,h4,h5⟩]
theorem zEv{one:Bool}{w8 N K P len:Nat}(h:(K≠0/\N+(K-1)=0)\/¬(0<N+K/\0<K+P/\N+K+P=len)):tenF false one w8 N K P len=0:=by
 unfold tenF;rw[iN Ob];split
 .rfl
 .rw[iN Z]
theorem zSf(s:ByteArray)(hs:s.size<=2147483647)(w:World) :
  Calls Tryz.prog 167 #[.string s] w λe w'=>e=.returned (.int .u8 (tenL (zA s):Nat))/\Below w.heap.size w w':=by
 have HQ:Hid (∀w' n,tenL (zA s)=n->Below w.heap.size w w'->(λ(e:Ending) w'=>e=.returned (.int .u8 (tenL (zA s):Nat))/\Below w.heap.size w w') (.returned (.int .u8 (n:Nat))) w'):=Hd λw' n h h2=>⟨by rw[h],h2⟩
 generalize(λ(e:Ending) w'=>e=.returned (.int .u8 (tenL (zA s):Nat))/\Below w.heap.size w w')=Q at *;have HV:=Hd (yEt s);have CR:=Hd (λw=>kC s 10 Z hs w);have CR2:=Hd (λi w=>kC (s.extract i s.size) 10 Z (by rw[ByteArray.size_extract];omega) w);have CP:=Hd (λi w=>zDo (s.extract i s.size) 101 69 (by rw[ByteArray.size_extract];omega) w);have CW:=Hd (λw=>zAj (s.extract 1 s.size) 8 Z (by rw[ByteArray.size_extract];omega) w);rw[yP]at CW;have hN:=jC 10 (zA s);rw[zH]at hN;have hKle:=zPd 10 (zA s);rw[zH]at hKle;have HKy:=Hd (zKw 10 s);have HKn:=Hd (zPa 10 s);generalize wholeL 8 ((zA s).drop 1)=w8 at *;generalize hNe:rowL 10 (zA s)=N at *;clear hNe;by_cases hfull:N=s.size/\0<N
 .obtain⟨hfs,hf0⟩:=hfull;have hf0':(0:Int)<N:=Z;have hfb:((N:Int)==(s.size:Int))=true:=by simp;omega
  have hpos:0<s.size:=Z;have hpos':(0:Int)<s.size:=Z;have hh:=zEt s hpos;rw[hh,decide_eq_true (show N=s.size/\0<N from⟨hfs,hf0⟩)]at HV;have HFS:=Hd hfs;clear hfs hh HKy HKn CR2 CP;by_cases h48:bt s 0=48
  .have y0:∀h,((s[0]'h).toNat:Int)=48:=λh=>by rw[zL s 0 h,h48];rfl
   rw[h48]at HV;clear h48;by_cases h1:N=1
   .have h1b:((N:Int)==1)=true:=by simp;omega
    have HV2:Hid (tenL (zA s)=3):=Hd (by rw[HV.out];unfold tenF;simp[h1]);clear HV h1;go_enter Tryz.func167,Tryz.ntmps167;go_wp2_with fail;refine(CR.out _).mono ?_;rintro e w1 ⟨rfl,hb1⟩;have HB1:=Hd hb1;clear hb1;go_wp2_with fail;show Q (.returned (.int .u8 3)) _;exact HQ.out _ 3 HV2.out HB1.out
   .have h1b:((N:Int)==1)=false:=by rw[bE];omega
    have h1n:¬(N:Int)=1:=Z;have h1l:(1:Int)<=s.size:=Z;have HV2:Hid (tenL (zA s)=w8):=Hd (by rw[HV.out];unfold tenF;simp[h1]);clear HV h1;go_enter Tryz.func167,Tryz.ntmps167;go_wp2_with fail;refine(CR.out _).mono ?_;rintro e w1 ⟨rfl,hb1⟩;have HB1:=Hd hb1;clear hb1;go_wp2_with fail;refine mB (CW.out _) HB1.out λw2 HB2=>?_;go_wp2_with fail;show Q (.returned (.int .u8 (w8:Nat))) _;exact HQ.out _ w8 HV2.out HB2.out
  .have y0:∀h,((s[0]'h).toNat:Int)=(bt s 0:Int):=λh=>by rw[zL s 0 h]
   have g48:¬(bt s 0:Int)=48:=Z;have g48b:((bt s 0:Int)==48)=false:=by rw[bE];exact g48
   have HV2:Hid (tenL (zA s)=3):=Hd (by rw[HV.out];unfold tenF;simp[h48]);clear HV h48;generalize bt s 0=c at *;go_enter Tryz.func167,Tryz.ntmps167;go_wp2_with fail;refine(CR.out _).mono ?_;rintro e w1 ⟨rfl,hb1⟩;have HB1:=Hd hb1;clear hb1;go_wp2_with fail;show Q (.returned (.int .u8 3)) _;exact HQ.out _ 3 HV2.out HB1.out
 .rw[decide_eq_false hfull]at HV;generalize decide ((zA s).head?≠some 48\/N=1)=one at *;clear CW;have hN0':(0:Int)<=N:=Z;by_cases hNs:N=s.size
  .have hz:N=0:=Z;have hs0:s.size=0:=Z;have hfb:((N:Int)==(s.size:Int))=true:=by simp;omega
   have hnz:¬(0:Int)<N:=Z;have hlt':¬(N:Int)<s.size:=Z;have hK:=HKn.out Z;rw[hK]at HV;have HV2:Hid (tenL (zA s)=0):=Hd (by rw[HV.out];exact zEv Z);have hs2:=λw=>yR s (N:Int) N rfl hN w
   have CP2:=Hd (CP.out N);clear HV HKy HKn CR2 CP hz hs0 hNs hK hfull;go_enter Tryz.func167,Tryz.ntmps167;go_wp2_with fail;refine(CR.out _).mono ?_;rintro e w1 ⟨rfl,hb1⟩;have HB1:=Hd hb1;clear hb1;go_wp2_with fail;refine mB (CP2.out _) HB1.out λw2 HB2=>?_;generalize powL 101 69 _=P at *;go_wp2_with fail;show Q (.returned (.int .u8 0)) _;exact HQ.out _ 0 HV2.out HB2.out
  .have hfb:((N:Int)==(s.size:Int))=false:=by rw[bE];omega
   have hfn:¬(N:Int)=(s.size:Int):=Z;have hlt':(N:Int)<s.size:=Z;have hlt:N<s.size:=Z;have HNS:=Hd hNs;clear hfull hNs;by_cases hpt:bt s N=46
   .have hK:=HKy.out hlt hpt;clear HKy HKn;have CR3:=CR2.out (N+1);rw[yP]at CR3;generalize rowL 10 ((zA s).drop (N+1))=k0 at *;have CRh:=Hd CR3;have CPh:=CP.out (N+(k0+1));rw[yP]at CPh;rw[hK]at HV hKle;clear CR3 CR2 CP hK;have CP2:Hid (∀w,Calls Tryz.prog 206 #[.string (s.extract (N+(k0+1)) s.size),.string ⟨#[101,69]⟩] w λe w'=>e=.returned (.int .i64 (powL 101 69 ((zA s).drop (N+(k0+1))):Nat))/\Below w.heap.size w w'):=Hd CPh;clear CPh;have hPle:=fD 101 69 ((zA s).drop (N+(k0+1)));rw[List.length_drop,zH]at hPle;generalize powL 101 69 ((zA s).drop (N+(k0+1)))=P at *;have yN:∀h,((s[N]'h).toNat:Int)=46:=λh=>by rw[zL s N h,hpt];rfl
    have hs1:=λw=>yR s ((N:Int)+1) (N+1) Z Z w
    have hs2:=λw=>yR s ((N:Int)+((k0:Int)+1)) (N+(k0+1)) Z Z w
    clear hpt;by_cases hz:N+k0=0
    .have hzb:(((N:Int)+(k0:Int))==0)=true:=by simp;omega
     have HV2:Hid (tenL (zA s)=0):=Hd (by rw[HV.out];exact zEv Z);clear HV hz;go_enter Tryz.func167,Tryz.ntmps167;go_wp2_with fail;refine(CR.out _).mono ?_;rintro e w1 ⟨rfl,hb1⟩;have HB1:=Hd hb1;clear hb1;go_wp2_with fail;refine mB (CRh.out _) HB1.out λw2 HB2=>?_;go_wp2_with fail;show Q (.returned (.int .u8 0)) _;exact HQ.out _ 0 HV2.out HB2.out
    .have hzb:(((N:Int)+(k0:Int))==0)=false:=by rw[bE];omega
     have hzn:¬((N:Int)+(k0:Int))=0:=Z;have g1:(0:Int)<(N:Int)+((k0:Int)+1):=Z;have g2:(0:Int)<((k0:Int)+1)+P:=Z;clear hz;by_cases hl:N+(k0+1)+P=s.size
     .have hl1:(((N:Int)+((k0:Int)+1)+P)==(s.size:Int))=true:=by simp;omega
      have HV2:Hid (tenL (zA s)=4):=Hd (by rw[HV.out];exact yAf Z Z Z Z);clear hl HV;go_enter Tryz.func167,Tryz.ntmps167;go_wp2_with fail;refine(CR.out _).mono ?_;rintro e w1 ⟨rfl,hb1⟩;have HB1:=Hd hb1;clear hb1;go_wp2_with fail;refine mB (CRh.out _) HB1.out λw2 HB2=>?_;go_wp2_with fail;refine mB (CP2.out _) HB2.out λw3 HB3=>?_;go_wp2_with fail;show Q (.returned (.int .u8 4)) _;exact HQ.out _ 4 HV2.out HB3.out
     .have hl1:(((N:Int)+((k0:Int)+1)+P)==(s.size:Int))=false:=by rw[bE];omega
      have hl2:¬((N:Int)+((k0:Int)+1)+P)=(s.size:Int):=Z;have HV2:Hid (tenL (zA s)=0):=Hd (by rw[HV.out];exact zEv Z);clear hl HV;go_enter Tryz.func167,Tryz.ntmps167;go_wp2_with fail;refine(CR.out _).mono ?_;rintro e w1 ⟨rfl,hb1⟩;have HB1:=Hd hb1;clear hb1;go_wp2_with fail;refine mB (CRh.out _) HB1.out λw2 HB2=>?_;go_wp2_with fail;refine mB (CP2.out _) HB2.out λw3 HB3=>?_;go_wp2_with fail;show Q (.returned (.int .u8 0)) _;exact HQ.out _ 0 HV2.out HB3.out
   .have hK:=HKn.out (λh=>hpt h.2);rw[hK]at HV hKle;clear HKy HKn hK CR2;have CPh:=CP.out N;rw[yP]at CPh;clear CP;have CP2:Hid (∀w,Calls Tryz.prog 206 #[.string (s.extract N s.size),.string ⟨#[101,69]⟩] w λe w'=>e=.returned (.int .i64 (powL 101 69 ((zA s).drop N):Nat))/\Below w.heap.size w w'):=Hd CPh;clear CPh;have hPle:=fD 101 69 ((zA s).drop N);rw[List.length_drop,zH]at hPle;rw[Nat.add_zero]at HV;generalize powL 101 69 ((zA s).drop N)=P at *;have hs2:=λw=>yR s (N:Int) N rfl hN w
    have yN:∀h,((s[N]'h).toNat:Int)=(bt s N:Int):=λh=>by rw[zL s N h]
    have hne1:¬(bt s N:Int)=46:=Z;have hneb:((bt s N:Int)==46)=false:=by rw[bE];exact hne1
    clear hpt;generalize bt s N=cN at *;by_cases h1:0<N
    .have g1:(0:Int)<N:=Z;by_cases h2:0<P
     .have g2:(0:Int)<P:=Z;by_cases hl:N+P=s.size
      .have hl1:(((N:Int)+P)==(s.size:Int))=true:=by simp;omega
       have HV2:Hid (tenL (zA s)=4):=Hd (by rw[HV.out];exact yAf Z Z Z Z);clear hl HV;go_enter Tryz.func167,Tryz.ntmps167;go_wp2_with fail;refine(CR.out _).mono ?_;rintro e w1 ⟨rfl,hb1⟩;have HB1:=Hd hb1;clear hb1;have HB2:=HB1;go_wp2_with fail;refine mB (CP2.out _) HB2.out λw3 HB3=>?_;go_wp2_with fail;show Q (.returned (.int .u8 4)) _;exact HQ.out _ 4 HV2.out HB3.out
      .have hl1:(((N:Int)+P)==(s.size:Int))=false:=by rw[bE];omega
       have hl2:¬((N:Int)+P)=(s.size:Int):=Z;have HV2:Hid (tenL (zA s)=0):=Hd (by rw[HV.out];exact zEv Z);clear hl HV;go_enter Tryz.func167,Tryz.ntmps167;go_wp2_with fail;refine(CR.out _).mono ?_;rintro e w1 ⟨rfl,hb1⟩;have HB1:=Hd hb1;clear hb1;have HB2:=HB1;go_wp2_with fail;refine mB (CP2.out _) HB2.out λw3 HB3=>?_;go_wp2_with fail;show Q (.returned (.int .u8 0)) _;exact HQ.out _ 0 HV2.out HB3.out
     .have g2:¬(0:Int)<P:=Z;have HV2:Hid (tenL (zA s)=0):=Hd (by rw[HV.out];exact zEv Z);clear HV;go_enter Tryz.func167,Tryz.ntmps167;go_wp2_with fail;refine(CR.out _).mono ?_;rintro e w1 ⟨rfl,hb1⟩;have HB1:=Hd hb1;clear hb1;have HB2:=HB1;go_wp2_with fail;refine mB (CP2.out _) HB2.out λw3 HB3=>?_;go_wp2_with fail;show Q (.returned (.int .u8 0)) _;exact HQ.out _ 0 HV2.out HB3.out
    .have g1:¬(0:Int)<N:=Z;have HV2:Hid (tenL (zA s)=0):=Hd (by rw[HV.out];exact zEv Z);clear HV;go_enter Tryz.func167,Tryz.ntmps167;go_wp2_with fail;refine(CR.out _).mono ?_;rintro e w1 ⟨rfl,hb1⟩;have HB1:=Hd hb1;clear hb1;have HB2:=HB1;go_wp2_with fail;refine mB (CP2.out _) HB2.out λw3 HB3=>?_;go_wp2_with fail;show Q (.returned (.int .u8 0)) _;exact HQ.out _ 0 HV2.out HB3.out
theorem nb(c k:Nat)(h:c≠k):((c:Int)==(k:Int))=false:=by rw[bE];omega
theorem yAg(s:ByteArray):realL (zA s)=if 1<s.size/\bt s 0=48 then
  (if bt s 1=98∨bt s 1=66 then wholeL 2 ((zA s).drop 2) else if bt s 1=111∨bt s 1=79 then wholeL 8 ((zA s).drop 2)
   else if bt s 1=120\/bt s 1=88 then zJ ((zA s).drop 2)else tenL (zA s))else tenL (zA s):=by
 unfold realL;rw[zH];by_cases h:1<s.size
 .rw[zEt s Z,fW s 1 h];simp only[Option.some.injEq]
 .rw[iN (λhh=>h hh.1),iN (λhh=>h hh.1)]
theorem zFu(s:ByteArray)(hs:s.size<=2147483647)(w:World) :
  Calls Tryz.prog 128 #[.string s] w λe w'=>e=.returned (.int .u8 (realL (zA s):Nat))/\Below w.heap.size w w':=by
 have HQ:Hid (∀w' n,realL (zA s)=n->Below w.heap.size w w'->(λ(e:Ending) w'=>e=.returned (.int .u8 (realL (zA s):Nat))/\Below w.heap.size w w') (.returned (.int .u8 (n:Nat))) w'):=Hd λw' n h h2=>⟨by rw[h],h2⟩
 generalize(λ(e:Ending) w'=>e=.returned (.int .u8 (realL (zA s):Nat))/\Below w.heap.size w w')=Q at *;have HV:=Hd (yAg s);have CT:=Hd (zSf s hs w);have CW:Hid (∀b:Nat,b<=16->Calls Tryz.prog 165 #[.string (s.extract 2 s.size),.int .i64 (b:Int)] w λe w'=>e=.returned (.int .u8 (wholeL b ((zA s).drop 2):Nat))/\Below w.heap.size w w'):=Hd λb hb=>by
  have:=zAj (s.extract 2 s.size) b hb (by rw[ByteArray.size_extract];omega) w
  rwa [yP]at this
 have CS:Hid (Calls Tryz.prog 166 #[.string (s.extract 2 s.size)] w λe w'=>e=.returned (.int .u8 (zJ ((zA s).drop 2):Nat))/\Below w.heap.size w w'):=Hd (by
  have:=zHw (s.extract 2 s.size) (by rw[ByteArray.size_extract];omega) w
  rwa [yP]at this)
 by_cases h1:1<s.size
 .have h1':(1:Int)<s.size:=Z;have h2':(2:Int)<=s.size:=Z;have h0':(0:Int)<s.size:=Z;have y0:∀h,((s[0]'h).toNat:Int)=(bt s 0:Int):=λh=>by rw[zL s 0 h]
  have y1:∀h,((s[1]'h).toNat:Int)=(bt s 1:Int):=λh=>by rw[zL s 1 h]
  by_cases h48:bt s 0=48
  .rw[iP ⟨h1,h48⟩]at HV;rw[h48]at y0;clear h48;have hcs:bt s 1=98\/bt s 1=66\/bt s 1=111\/bt s 1=79\/bt s 1=120\/bt s 1=88\/(bt s 1≠98/\bt s 1≠66/\bt s 1≠111/\bt s 1≠79/\bt s 1≠120/\bt s 1≠88):=Z;generalize bt s 1=c at *;rcases hcs with rfl|rfl|rfl|rfl|rfl|rfl|⟨n1,n2,n3,n4,n5,n6⟩
   .go_enter Tryz.func128,Tryz.ntmps128;go_wp2_with fail;refine(CW.out 2 Z).mono ?_;rintro e w1 ⟨rfl,hb1⟩;have HB1:=Hd hb1;clear hb1;go_wp2_with fail;show Q (.returned (.int .u8 (_:Nat))) _;exact HQ.out _ _ (by rw[HV.out];rfl) HB1.out
   .go_enter Tryz.func128,Tryz.ntmps128;go_wp2_with fail;refine(CW.out 2 Z).mono ?_;rintro e w1 ⟨rfl,hb1⟩;have HB1:=Hd hb1;clear hb1;go_wp2_with fail;show Q (.returned (.int .u8 (_:Nat))) _;exact HQ.out _ _ (by rw[HV.out];rfl) HB1.out
   .go_enter Tryz.func128,Tryz.ntmps128;go_wp2_with fail;refine(CW.out 8 Z).mono ?_;rintro e w1 ⟨rfl,hb1⟩;have HB1:=Hd hb1;clear hb1;go_wp2_with fail;show Q (.returned (.int .u8 (_:Nat))) _;exact HQ.out _ _ (by rw[HV.out];rfl) HB1.out
   .go_enter Tryz.func128,Tryz.ntmps128;go_wp2_with fail;refine(CW.out 8 Z).mono ?_;rintro e w1 ⟨rfl,hb1⟩;have HB1:=Hd hb1;clear hb1;go_wp2_with fail;show Q (.returned (.int .u8 (_:Nat))) _;exact HQ.out _ _ (by rw[HV.out];rfl) HB1.out
   .go_enter Tryz.func128,Tryz.ntmps128;go_wp2_with fail;refine CS.out.mono ?_;rintro e w1 ⟨rfl,hb1⟩;have HB1:=Hd hb1;clear hb1;go_wp2_with fail;show Q (.returned (.int .u8 (_:Nat))) _;exact HQ.out _ _ (by rw[HV.out];rfl) HB1.out
   .go_enter Tryz.func128,Tryz.ntmps128;go_wp2_with fail;refine CS.out.mono ?_;rintro e w1 ⟨rfl,hb1⟩;have HB1:=Hd hb1;clear hb1;go_wp2_with fail;show Q (.returned (.int .u8 (_:Nat))) _;exact HQ.out _ _ (by rw[HV.out];rfl) HB1.out
   .have m1:=nb c 98 n1;have m2:=nb c 66 n2;have m3:=nb c 111 n3;have m4:=nb c 79 n4;have m5:=nb c 120 n5;have m6:=nb c 88 n6;have HV2:Hid (realL (zA s)=tenL (zA s)):=Hd (by rw[HV.out,iN Z,iN Z,iN Z]);have k1:¬(c:Int)=98:=Z;have k2:¬(c:Int)=66:=Z;have k3:¬(c:Int)=111:=Z;have k4:¬(c:Int)=79:=Z;have k5:¬(c:Int)=120:=Z;have k6:¬(c:Int)=88:=Z;clear n1 n2 n3 n4 n5 n6 HV;go_enter Tryz.func128,Tryz.ntmps128;go_wp2_with fail;refine CT.out.mono ?_;rintro e w1 ⟨rfl,hb1⟩;have HB1:=Hd hb1;clear hb1;go_wp2_with fail;show Q (.returned (.int .u8 (_:Nat))) _;exact HQ.out _ _ HV2.out HB1.out
  .have g48:¬(bt s 0:Int)=48:=Z;have g48b:=nb (bt s 0) 48 h48;rw[iN (λh=>h48 h.2)]at HV;clear h48;generalize bt s 0=c at *;go_enter Tryz.func128,Tryz.ntmps128;go_wp2_with fail;refine CT.out.mono ?_;rintro e w1 ⟨rfl,hb1⟩;have HB1:=Hd hb1;clear hb1;go_wp2_with fail;show Q (.returned (.int .u8 (_:Nat))) _;exact HQ.out _ _ HV.out HB1.out
 .have h1':¬(1:Int)<s.size:=Z;rw[iN (λh=>h1 h.1)]at HV;go_enter Tryz.func128,Tryz.ntmps128;go_wp2_with fail;refine CT.out.mono ?_;rintro e w1 ⟨rfl,hb1⟩;have HB1:=Hd hb1;clear hb1;go_wp2_with fail;show Q (.returned (.int .u8 (_:Nat))) _;exact HQ.out _ _ HV.out HB1.out
theorem zHx(c:UInt8)(l:List UInt8):Lib.hasSuffix l [c]=true↔l.getLast?=some c:=by
 unfold Lib.hasSuffix;rw[List.isSuffixOf_iff_suffix];constructor
 .rintro⟨t,rfl⟩;simp
 .intro h;obtain⟨t,ht⟩:=List.getLast?_eq_some_iff.1 h;exact⟨t,ht.symm⟩
theorem zSg(s:ByteArray):Lib.hasSuffix s.data.toList [105]=decide ((zA s).getLast?=some 105):=by
 rw[Bool.eq_iff_iff,zHx,decide_eq_true_eq];unfold zA;rw[List.getLast?_map];cases h:s.data.toList.getLast? with
 |none=>simp
 |some c =>
  simp only[Option.map_some,Option.some.injEq];constructor
  .rintro rfl;rfl
  .intro h;exact UInt8.toNat_inj.1 (by rw[h];rfl)
theorem zHy(s:ByteArray):zA (s.extract 0 (s.size-1))=(zA s).dropLast:=by
 unfold zA;rw[yA,List.drop_zero,Nat.sub_zero,List.map_take,List.dropLast_eq_take];rw[List.length_map,<-size_data]
theorem zFv(s:ByteArray)(hs:s.size<=2147483647)(w:World) :
  Calls Tryz.prog 79 #[.string s] w λe w'=>e=.returned (.int .u8 (kindL (zA s):Nat))/\Below w.heap.size w w':=by
 have HQ:Hid (∀w' n,kindL (zA s)=n->Below w.heap.size w w'->(λ(e:Ending) w'=>e=.returned (.int .u8 (kindL (zA s):Nat))/\Below w.heap.size w w') (.returned (.int .u8 (n:Nat))) w'):=Hd λw' n h h2=>⟨by rw[h],h2⟩
 generalize(λ(e:Ending) w'=>e=.returned (.int .u8 (kindL (zA s):Nat))/\Below w.heap.size w w')=Q at *;have C1:=zFu s hs w;have HV:Hid (kindL (zA s)=if realL (zA s)≠0 then realL (zA s)else if Lib.hasSuffix s.data.toList [105]=false then 0 else if realL (zA (s.extract 0 (s.size-1)))≠0\/(0<(s.extract 0 (s.size-1)).size/\rowL 10 (zA (s.extract 0 (s.size-1)))=(s.extract 0 (s.size-1)).size)then 5 else 0):=Hd (by
  unfold kindL;rw[zSg,zHy,<-zH (s.extract 0 (s.size-1)),zHy];simp only[decide_eq_false_iff_not,List.length_pos_iff])
 have CH:Hid (∀w,Calls Tryz.prog 129 #[.string s,.string ⟨#[105]⟩] w λe w'=>e=.returned (.bool (Lib.hasSuffix s.data.toList [105]))/\w'=w):=Hd λw=>Tryz.strings_HasSuffix s ⟨#[105]⟩ w Z
 have hsuf:=zHx 105 s.data.toList;generalize hk:realL (zA s)=k at *;by_cases hk0:k=0
 .subst hk0;have C1h:=Hd C1;clear C1 hk;rw[iN Ob]at HV;cases hu:Lib.hasSuffix s.data.toList [105]with
  |false =>
   rw[hu]at CH HV;have HV2:Hid (kindL (zA s)=0):=Hd (by rw[HV.out];rfl);clear HV hu hsuf;go_enter Tryz.func79,Tryz.ntmps79;go_wp2_with fail;refine C1h.out.mono ?_;rintro e w1 ⟨rfl,hb1⟩;have HB1:=Hd hb1;clear hb1;go_wp2_with fail;refine(CH.out _).mono ?_;rintro e w2 ⟨rfl,rfl⟩;go_wp2_with fail;show Q (.returned (.int .u8 0)) _;exact HQ.out _ 0 HV2.out HB1.out
  |true =>
   rw[hu]at CH HV;rw[iN Ob]at HV;have hpos:0<s.size:=by
    have:=hsuf.1 hu;rcases Nat.eq_zero_or_pos s.size with h|h
    .rw[size_data]at h;rw[List.eq_nil_of_length_eq_zero h]at this;simp at this
    .exact h
   have hpos':(1:Int)<=s.size:=Z;clear hu hsuf;have hsl:∀w,(Instr.slice 9 (.string s) none (some (.int .i64 ((s.size:Int)-1))) none).run Tryz.prog w=.ok (.string (s.extract 0 (s.size-1))) w:=λw=>by
    rw[run_slice_string_to_if _ _ s _ _ Tryz.underlying9,iP ⟨Z,Z⟩,show((s.size:Int)-1).toNat=s.size-1 by omega]
   have hsz:(s.extract 0 (s.size-1)).size<=2147483647:=by rw[ByteArray.size_extract];omega
   have C2:=Hd (λw=>zFu (s.extract 0 (s.size-1)) hsz w);have C3:=Hd (λw=>kC (s.extract 0 (s.size-1)) 10 Z hsz w);generalize s.extract 0 (s.size-1)=t at *;generalize realL (zA t)=k2 at *;generalize rowL 10 (zA t)=n at *;by_cases hk2:k2=0
   .subst hk2;by_cases ht0:t.size=0
    .have he:=zDn t ht0;have hb:=zEu t ht0;have HV2:Hid (kindL (zA s)=0):=Hd (by rw[HV.out,iN Z]);clear HV ht0;go_enter Tryz.func79,Tryz.ntmps79;go_wp2_with fail;refine C1h.out.mono ?_;rintro e w1 ⟨rfl,hb1⟩;have HB1:=Hd hb1;clear hb1;go_wp2_with fail;refine(CH.out _).mono ?_;rintro e w2 ⟨rfl,rfl⟩;go_wp2_with fail;refine mB (C2.out _) HB1.out λw2 HB2=>?_;go_wp2_with fail;show Q (.returned (.int .u8 0)) _;exact HQ.out _ 0 HV2.out HB2.out
    .have htp:0<t.size:=Z;have he:=zGz t htp;have hb:=zHu t htp;by_cases hn:n=t.size
     .have hnb:((n:Int)==(t.size:Int))=true:=by simp;omega
      have HV2:Hid (kindL (zA s)=5):=Hd (by rw[HV.out,iP (Or.inr ⟨htp,hn⟩)]);clear HV ht0 htp hn;go_enter Tryz.func79,Tryz.ntmps79;go_wp2_with fail;refine C1h.out.mono ?_;rintro e w1 ⟨rfl,hb1⟩;have HB1:=Hd hb1;clear hb1;go_wp2_with fail;refine(CH.out _).mono ?_;rintro e w2 ⟨rfl,rfl⟩;go_wp2_with fail;refine mB (C2.out _) HB1.out λw2 HB2=>?_;go_wp2_with fail;refine mB (C3.out _) HB2.out λw3 HB3=>?_;go_wp2_with fail;show Q (.returned (.int .u8 5)) _;exact HQ.out _ 5 HV2.out HB3.out
     .have hnb:((n:Int)==(t.size:Int))=false:=by rw[bE];omega
      have hnn:¬(n:Int)=(t.size:Int):=Z;have HV2:Hid (kindL (zA s)=0):=Hd (by rw[HV.out,iN Z]);clear HV ht0 htp hn;go_enter Tryz.func79,Tryz.ntmps79;go_wp2_with fail;refine C1h.out.mono ?_;rintro e w1 ⟨rfl,hb1⟩;have HB1:=Hd hb1;clear hb1;go_wp2_with fail;refine(CH.out _).mono ?_;rintro e w2 ⟨rfl,rfl⟩;go_wp2_with fail;refine mB (C2.out _) HB1.out λw2 HB2=>?_;go_wp2_with fail;refine mB (C3.out _) HB2.out λw3 HB3=>?_;go_wp2_with fail;show Q (.returned (.int .u8 0)) _;exact HQ.out _ 0 HV2.out HB3.out
   .have hkb:=nb k2 0 hk2;have hkn:¬(k2:Int)=0:=Z;have hk2':((k2:Int)==0)=false:=hkb;have HV2:Hid (kindL (zA s)=5):=Hd (by rw[HV.out,iP (Or.inl hk2)]);clear HV hk2 hkb;go_enter Tryz.func79,Tryz.ntmps79;go_wp2_with fail;refine C1h.out.mono ?_;rintro e w1 ⟨rfl,hb1⟩;have HB1:=Hd hb1;clear hb1;go_wp2_with fail;refine(CH.out _).mono ?_;rintro e w2 ⟨rfl,rfl⟩;go_wp2_with fail;refine mB (C2.out _) HB1.out λw2 HB2=>?_;go_wp2_with fail;show Q (.returned (.int .u8 5)) _;exact HQ.out _ 5 HV2.out HB2.out
 .have hkn:¬(k:Int)=0:=Z;have hk2':((k:Int)==0)=false:=by rw[bE];exact hkn
  have C1h:=Hd C1;have HV2:Hid (kindL (zA s)=k):=Hd (by rw[HV.out,iP hk0]);clear C1 hk hk0 HV;go_enter Tryz.func79,Tryz.ntmps79;go_wp2_with fail;refine C1h.out.mono ?_;rintro e w1 ⟨rfl,hb1⟩;have HB1:=Hd hb1;clear hb1;go_wp2_with fail;show Q (.returned (.int .u8 (k:Nat))) _;exact HQ.out _ k HV2.out HB1.out
end Go.Proofs.YtfpjdpdmgceciaaGreatDoor
