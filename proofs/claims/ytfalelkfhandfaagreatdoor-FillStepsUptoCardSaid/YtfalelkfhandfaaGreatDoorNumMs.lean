/- Layer 5: the program's functions, walked: a digit's value, a row of digits. -/
import Derived.Test.YtfalelkfhandfaaGreatDoorPackMs
import Derived.Test.YtfalelkfhandfaaGreatDoorQuotedMs
import Derived.Test.YtfalelkfhandfaaGreatDoorMatchP2Ms
import Derived.OneCell
namespace Go.Proofs.YtfalelkfhandfaaGreatDoor
set_option maxRecDepth 100000
set_option maxHeartbeats 32000000
set_option linter.all false
open Go.RowKit

theorem zDf (c:Nat) (hc:c<256) (w:World) :
  Calls Tryz.prog 143 #[.int .u8 (c:Int)] w fun e w'=>e=.returned (.int .i64 (dval c:Nat))∧w=w':=by
 have hc':(c:Int)<256:=by omega
 have hc0:(0:Int)≤c:=by omega
 go_enter Tryz.func143,Tryz.ntmps143
 go_wp2_with fail
 all_goals go_ret
 all_goals (refine ⟨zAn ?_,rfl⟩)
 all_goals (unfold dval;repeat (first | rw [if_pos (by omega)] | rw [if_neg (by omega)] | omega))
structure RW (w:World) (B:Nat) (s:ByteArray) (b:Nat) (n:Int):Prop where
 h0:w.heap[B]?=some (.cells #[.string s] 9 (0,0))
 h1:w.heap[B+1]?=some (.cells #[.int .i64 b] 3 (0,0))
 h2:w.heap[B+1+1]?=some (.cells #[.int .i64 n] 3 (0,0))
theorem RW.drewN {w:World} {B:Nat} {s:ByteArray} {b:Nat} {n:Int} (h:RW w B s b n) (k:Nat):RW (w.drewN k) B s b n:=⟨h.h0,h.h1,h.h2⟩
theorem RW.c0 {w:World} {B:Nat} {s:ByteArray} {b:Nat} {n:Int} (h:RW w B s b n):w.cell? ⟨B,0,none⟩=some (.string s):=cell_of_one h.h0
theorem RW.c1 {w:World} {B:Nat} {s:ByteArray} {b:Nat} {n:Int} (h:RW w B s b n):w.cell? ⟨B+1,0,none⟩=some (.int .i64 b):=cell_of_one h.h1
theorem RW.c2 {w:World} {B:Nat} {s:ByteArray} {b:Nat} {n:Int} (h:RW w B s b n):w.cell? ⟨B+1+1,0,none⟩=some (.int .i64 n):=cell_of_one h.h2
theorem RW.z2 {w:World} {B:Nat} {s:ByteArray} {b:Nat} {n:Int} (h:RW w B s b n):w.frozen? ⟨B+1+1,0,none⟩=false:=free_of_one h.h2
theorem RW.set {w:World} {B:Nat} {s:ByteArray} {b:Nat} {n:Int} (h:RW w B s b n) (m:Int):RW (w.setCell ⟨B+1+1,0,none⟩ (.int .i64 m)) B s b m :=
 ⟨by rw [heap_setCell_other _ _ _ _ (by show B≠B+1+1;omega)];exact h.h0,by rw [heap_setCell_other _ _ _ _ (by show B+1≠B+1+1;omega)];exact h.h1,one_setCell h.h2⟩
def rwN (B:Nat) (w:World):Nat:=match w.cell? ⟨B+1+1,0,none⟩ with
 | some (.int _ n)=>n.toNat
 | _=>0
theorem RW.n {w:World} {B:Nat} {s:ByteArray} {b:Nat} {n:Int} (h:RW w B s b n):rwN B w=n.toNat:=by unfold rwN;rw [h.c2]
theorem RW.new (w:World) (s:ByteArray) (b:Nat):RW (((w.alloc (.cells #[.string s] 9)).alloc (.cells #[.int .i64 b] 3)).alloc (.cells #[.int .i64 0] 3)) w.heap.size s b 0 :=
 ⟨by rw [Below.heap_alloc _ _ _ (by simp;omega),Below.heap_alloc _ _ _ (by simp)];exact heap_alloc_new _ _,
  by rw [Below.heap_alloc _ _ _ (by simp)];have:=heap_alloc_new (w.alloc (.cells #[.string s] 9)) (.cells #[.int .i64 b] 3);simpa using this,
  by have:=heap_alloc_new ((w.alloc (.cells #[.string s] 9)).alloc (.cells #[.int .i64 b] 3)) (.cells #[.int .i64 0] 3);simpa using this⟩
def isDig (s:ByteArray) (b n:Nat):Bool:=decide (n<s.size)&&decide (dval (bt s n)<b)
theorem zLp (s:ByteArray) (b n B:Nat) (hn:n≤s.size) (hb:b≤16) (w:World) (hR:RW w B s b n) :
  Calls Tryz.prog 142 #[.pointer (some ⟨B+1+1,0,none⟩),.pointer (some ⟨B,0,none⟩),.pointer (some ⟨B+1,0,none⟩)] w fun e w'=>e=.returned (.bool (isDig s b n))∧∃ k,w'=w.drewN k:=by
 have c0:=hR.c0;have c1:=hR.c1;have c2:=hR.c2
 have CV:=Hd (fun w=>zDf (bt s n) (xR s n) w)
 clear hR
 by_cases hlt:n<s.size
 ·have hlt':(n:Int)<s.size:=by omega
  have hn0:(0:Int)≤n:=by omega
  have yy:∀ h,((s[n]'h).toNat:Int)=(bt s n:Int):=fun h=>by rw [yH s n h]
  have hd:isDig s b n=decide (dval (bt s n)<b):=by unfold isDig;simp [hlt]
  have hdv:dval (bt s n)≤99:=by unfold dval;split <;> (try split) <;> (try split) <;> omega
  have HD:=Hd hd
  clear hd
  generalize bt s n=c at *
  generalize hx:dval c=x at *
  clear hx
  go_enter Tryz.func142,Tryz.ntmps142
  go_wp2_with fail
  have CV':∀ n,Calls Tryz.prog 143 #[.int .u8 (c:Int)] (w.drewN n) fun e w'=>e=.returned (.int .i64 (x:Nat))∧∃ m,w'=w.drewN m:=fun n=>Calls.quiet_of_same ((CV.out _).mono fun e w' h=>⟨h.1,h.2.symm⟩)
  have CC:=Hd CV'
  clear CV'
  go_quiet (exact CC.out _)
  go_wp2_with fail
  go_ret
  exact ⟨yW HD.out.symm,nq,rfl⟩
 ·have hlt':¬ (n:Int)<s.size:=by omega
  have hd:isDig s b n=false:=by unfold isDig;simp [hlt]
  have HD:=Hd hd
  clear hd CV
  go_enter Tryz.func142,Tryz.ntmps142
  go_wp2_with fail
  go_quiet (fail)
  go_wp2_with fail
  go_ret
  exact ⟨yW HD.out.symm,nq,rfl⟩
def rowAt (b:Nat) (s:ByteArray) (n:Nat):Nat:=rowL b ((zA s).drop n)
theorem kY (s:ByteArray) (n:Nat) (h:n<s.size):(zA s).drop n=bt s n::(zA s).drop (n+1):=by
 have hl:n<(zA s).length:=by rw [zH];exact h
 rw [List.drop_eq_getElem_cons hl]
 congr 1
 have:=kG s n h
 rw [List.getElem?_eq_getElem hl] at this
 exact Option.some.inj this
theorem zGz (s:ByteArray) (n:Nat) (h:s.size≤n):(zA s).drop n=[]:=List.drop_of_length_le (by rw [zH];exact h)
theorem zWf {b:Nat} {s:ByteArray} {n:Nat} (h:isDig s b n=false):rowAt b s n=0:=by
 unfold rowAt
 by_cases hn:n<s.size
 ·rw [kY s n hn]
  unfold isDig at h
  simp [hn] at h
  exact fX (by omega)
 ·rw [zGz s n (by omega),gD]
theorem zTb {b:Nat} {s:ByteArray} {n:Nat} (h:isDig s b n=true) (h1:n+2<s.size) (h2:bt s (n+1)=95) (h3:dval (bt s (n+2))<b):rowAt b s n=2+rowAt b s (n+2):=by
 unfold rowAt
 unfold isDig at h
 simp at h
 rw [kY s n (by omega),kY s (n+1) (by omega),kY s (n+1+1) (by omega),h2]
 exact gY h.2 h3
theorem zTc {b:Nat} {s:ByteArray} {n:Nat} (h:isDig s b n=true) (h1:¬ (n+2<s.size∧bt s (n+1)=95∧dval (bt s (n+2))<b)):rowAt b s n=1+rowAt b s (n+1):=by
 unfold rowAt
 unfold isDig at h
 simp at h
 rw [kY s n (by omega)]
 refine jT h.2 ?_
 rintro ⟨g1,d,g2,g3⟩
 by_cases hn:n+1<s.size
 ·rw [kY s (n+1) hn] at g1 g2
  simp at g1
  by_cases hn2:n+2<s.size
  ·rw [kY s (n+1+1) hn2] at g2
   simp at g2
   subst g2
   exact h1 ⟨hn2,g1,g3⟩
  ·rw [zGz s (n+1+1) (by omega)] at g2
   simp at g2
 ·rw [zGz s (n+1) (by omega)] at g1
  simp at g1
theorem kU (s:ByteArray) (b:Nat) (hb:b≤16) (hs:s.size≤2147483647) (w:World) :
  Calls Tryz.prog 124 #[.string s,.int .i64 (b:Int)] w fun e w'=>e=.returned (.int .i64 (rowL b (zA s):Nat))∧Below w.heap.size w w':=by
 have HQ:Hid (∀ w' n,rowL b (zA s)=n→Below w.heap.size w w'→(fun (e:Ending) w'=>e=.returned (.int .i64 (rowL b (zA s):Nat))∧Below w.heap.size w w') (.returned (.int .i64 (n:Nat))) w'):=Hd fun w' n h h2=>⟨by rw [h],h2⟩
 generalize (fun (e:Ending) w'=>e=.returned (.int .i64 (rowL b (zA s):Nat))∧Below w.heap.size w w')=Q at *
 have CD:=Hd (fun n hn w1 hR=>zLp s b n w.heap.size hn hb w1 hR)
 go_enter Tryz.func124,Tryz.ntmps124
 go_wp2_with fail
 go_loopw [] (fun wr=>∃ n:Nat,n≤s.size∧rowL b (zA s)=n+rowAt b s n∧RW wr w.heap.size s b n∧Below w.heap.size w wr) (fun wr=>s.size-rwN w.heap.size wr)
 case atStart=>exact ⟨0,Nat.zero_le _,by unfold rowAt;simp,RW.new w s b,(((Below.refl _ _).alloc (Nat.le_refl _) _).alloc (by simp) _).alloc (by simp;omega) _⟩
 case round =>
  obtain ⟨n,hn,hr,hR,hB⟩:=hrel
  have HR:=Hd hR
  have HB:=Hd hB
  have HE:=Hd hr
  have CDn:=CD.out n hn _ hR
  clear hr hB hR
  cases hd:isDig s b n
  ·rw [hd] at CDn
   have CC:=Hd CDn
   have H0:=Hd (zWf hd)
   clear CDn hd
   go_wp2_with fail
   refine CC.out.mono ?_
   rintro e w1 ⟨rfl,k,rfl⟩
   have c2:=(HR.out.drewN k).c2
   have HB1:=Hd (bdrewN HB.out k)
   clear HB CC
   generalize wr.drewN k=w1 at *
   go_wp2_with fail
   show Q (.returned (.int .i64 _)) _
   exact HQ.out _ _ (by rw [HE.out,H0.out,Nat.add_zero]) HB1.out
  ·rw [hd] at CDn
   have CC:=Hd CDn
   have hlt:n<s.size:=by unfold isDig at hd;simp at hd;exact hd.1
   have HT:=Hd (zTb hd)
   have HO:=Hd (zTc hd)
   clear CDn hd
   go_wp2_with fail
   refine CC.out.mono ?_
   rintro e w1 ⟨rfl,k,rfl⟩
   have hw1:(n:Int)+1≤2147483648:=by omega
   have hR1:=HR.out.drewN k
   have HBk:=Hd (bdrewN HB.out k)
   clear HB CC
   generalize wr.drewN k=w1 at *
   have c2:=hR1.c2
   have z2:=hR1.z2
   have HR2:Hid (RW (w1.setCell ⟨w.heap.size+1+1,0,none⟩ (.int .i64 ((n:Int)+1))) w.heap.size s b ((n+1:Nat):Int)):=Hd (by rw [show ((n+1:Nat):Int)=(n:Int)+1 by omega];exact hR1.set _)
   have HB2:=Hd (HBk.out.setCell (p:=⟨w.heap.size+1+1,0,none⟩) (by show w.heap.size≤w.heap.size+1+1;omega) (.int .i64 ((n:Int)+1)))
   clear hR1
   go_wp2_with fail
   have hr2:=HR2.out
   have c0:=hr2.c0;have c1:=hr2.c1;have c2:=hr2.c2;have z2:=hr2.z2
   have hw2:IntKind.i64.wrap (((n+1:Nat):Int)+1)=((n+1:Nat):Int)+1:=wI (by omega)
   clear hr2 hw1
   generalize w1.setCell ⟨w.heap.size+1+1,0,none⟩ (.int .i64 ((n:Int)+1))=w2 at *
   clear HBk
   generalize hm:n+1=m at *
   have HM:=Hd hm
   clear hm
   have hm0:(0:Int)≤m:=by omega
   by_cases g1:m+1<s.size
   ·have g1':(m:Int)+1<s.size:=by omega
    have g3':((m:Int)+1).toNat=m+1:=by omega
    have g2':(m:Int)<s.size:=by have:=HM.out;omega
    have yy:∀ h,((s[m]'h).toNat:Int)=(bt s m:Int):=fun h=>by rw [yH s m h]
    by_cases h95:bt s m=95
    ·have h95':(bt s m:Int)=95:=by omega
     have hm1:(0:Int)≤(m:Int)+1:=by omega
     have zz:∀ h,((s[m+1]'h).toNat:Int)=(bt s (m+1):Int):=fun h=>by rw [yH s (m+1) h]
     have hdv:dval (bt s (m+1))≤99:=by unfold dval;split <;> (try split) <;> (try split) <;> omega
     have CV:=Hd (fun w=>zDf (bt s (m+1)) (xR s (m+1)) w)
     have HT2:Hid (dval (bt s (m+1))<b→rowAt b s n=2+rowAt b s (m+1)):=Hd fun h=>by
      have e:=HM.out
      subst e
      exact HT.out g1 h95 h
     have HO2:Hid (¬ dval (bt s (m+1))<b→rowAt b s n=1+rowAt b s m):=Hd fun h=>by
      have e:=HM.out
      subst e
      exact HO.out fun hh=>h hh.2.2
     clear HT HO
     generalize bt s m=c at *
     subst h95
     generalize bt s (m+1)=d at *
     generalize dval d=x at *
     have CV':∀ n,Calls Tryz.prog 143 #[.int .u8 (d:Int)] (w2.drewN n) fun e w'=>e=.returned (.int .i64 (x:Nat))∧∃ m,w'=w2.drewN m:=fun n=>Calls.quiet_of_same ((CV.out _).mono fun e w' h=>⟨h.1,h.2.symm⟩)
     have CC:=Hd CV'
     clear CV' CV
     by_cases hx:x<b
     ·have hx':(x:Int)<b:=by omega
      go_quiet (exact CC.out _)
      have hr3:=HR2.out.drewN nq
      have HB3:=Hd (bdrewN HB2.out nq)
      clear HB2 CC HR2
      generalize w2.drewN nq=w3 at *
      have c2:=hr3.c2;have z2:=hr3.z2
      have HR4:Hid (RW (w3.setCell ⟨w.heap.size+1+1,0,none⟩ (.int .i64 ((m:Int)+1))) w.heap.size s b ((m+1:Nat):Int)):=Hd (by rw [show ((m+1:Nat):Int)=(m:Int)+1 by omega];exact hr3.set _)
      have HB4:=Hd (HB3.out.setCell (p:=⟨w.heap.size+1+1,0,none⟩) (by show w.heap.size≤w.heap.size+1+1;omega) (.int .i64 ((m:Int)+1)))
      clear hr3
      go_wp2_with fail
      go_roundw
      case rel=>exact ⟨m+1,by omega,by have:=HT2.out hx;have:=HE.out;have:=HM.out;omega,HR4.out,HB4.out⟩
      case measure=>rw [HR4.out.n,HR.out.n];have:=HM.out;omega
     ·have hx':¬ (x:Int)<b:=by omega
      go_quiet (exact CC.out _)
      have HR3:=Hd (HR2.out.drewN nq)
      have HB3:=Hd (bdrewN HB2.out nq)
      clear HB2 CC HR2
      generalize w2.drewN nq=w3 at *
      go_wp2_with fail
      go_roundw
      case rel=>exact ⟨m,by omega,by have:=HO2.out hx;have:=HE.out;have:=HM.out;omega,HR3.out,HB3.out⟩
      case measure=>rw [HR3.out.n,HR.out.n];have:=HM.out;omega
    ·have h95':¬ (bt s m:Int)=95:=by omega
     have HO2:Hid (rowAt b s n=1+rowAt b s m):=Hd (by
      have e:=HM.out
      subst e
      exact HO.out fun hh=>h95 hh.2.1)
     clear HT HO
     generalize bt s m=c at *
     go_quiet (fail)
     have HR3:=Hd (HR2.out.drewN nq)
     have HB3:=Hd (bdrewN HB2.out nq)
     clear HB2 HR2
     generalize w2.drewN nq=w3 at *
     go_wp2_with fail
     go_roundw
     case rel=>exact ⟨m,by omega,by have:=HO2.out;have:=HE.out;have:=HM.out;omega,HR3.out,HB3.out⟩
     case measure=>rw [HR3.out.n,HR.out.n];have:=HM.out;omega
   ·have g1':¬ (m:Int)+1<s.size:=by omega
    have HO2:Hid (rowAt b s n=1+rowAt b s m):=Hd (by
     have e:=HM.out
     subst e
     exact HO.out fun hh=>g1 hh.1)
    clear HT HO
    go_quiet (fail)
    have HR3:=Hd (HR2.out.drewN nq)
    have HB3:=Hd (bdrewN HB2.out nq)
    clear HB2 HR2
    generalize w2.drewN nq=w3 at *
    go_wp2_with fail
    go_roundw
    case rel=>exact ⟨m,by have:=HM.out;omega,by have:=HO2.out;have:=HE.out;have:=HM.out;omega,HR3.out,HB3.out⟩
    case measure=>rw [HR3.out.n,HR.out.n];have:=HM.out;omega
end Go.Proofs.YtfalelkfhandfaaGreatDoor
namespace Go.Proofs.YtfalelkfhandfaaGreatDoor
set_option maxRecDepth 100000
set_option maxHeartbeats 32000000
set_option linter.all false
open Go.RowKit

theorem xL (s:ByteArray) (i:Nat):zA (s.extract i s.size)=(zA s).drop i:=by
 unfold zA
 rw [zDq,List.map_drop]
theorem zTd (s:ByteArray) (h:0<s.size):zA s=bt s 0::(zA s).drop 1:=by
 have:=kY s 0 h
 rwa [List.drop_zero] at this
theorem zEf (s:ByteArray) (h:0<s.size):(zA s).head?=some (bt s 0):=by rw [zTd s h];rfl
theorem zJv (s:ByteArray) (i:Nat) (h:s.size≤i):(zA s)[i]?=none:=List.getElem?_eq_none (by rw [zH];exact h)
theorem zWg (s:ByteArray) (h:s.size=0):zA s=[]:=List.eq_nil_of_length_eq_zero (by rw [zH];exact h)
theorem zDg (s:ByteArray) (h:s.size=0):s.toList.isEmpty=true:=by
 rw [ByteArray.toList_eq,List.isEmpty_iff_length_eq_zero,← xB];exact h
theorem zFy (s:ByteArray) (h:0<s.size):s.toList.isEmpty=false:=by
 rw [ByteArray.toList_eq,Bool.eq_false_iff]
 intro e
 rw [List.isEmpty_iff_length_eq_zero,← xB] at e;omega
theorem zEg (s:ByteArray) (h:s.size=0):(s.toList == [])=true:=by
 rw [List.isEmpty_iff.1 (zDg s h)];rfl
theorem zHa (s:ByteArray) (h:0<s.size):(s.toList == [])=false:=by
 rw [beq_eq_false_iff_ne];intro e;have:=zFy s h;rw [e] at this;cases this
theorem zTe (c1 c2 c:UInt8):Lib.indexByte [c1,c2] c=if c1=c then 0 else if c2=c then 1 else -1:=by
 by_cases h1:c1=c
 ·simp [Lib.indexByte,h1]
 ·by_cases h2:c2=c
  ·simp [Lib.indexByte,h1,h2]
  ·simp [Lib.indexByte,h1,h2]
theorem zWh (s:ByteArray) (i:Nat) (c:UInt8):(c=((bt s i:Int)).toNat.toUInt8)↔bt s i=c.toNat:=by
 have hl:=xR s i
 rw [Int.toNat_natCast]
 constructor
 ·intro h
  rw [h]
  show bt s i=(UInt8.ofNat (bt s i)).toNat
  rw [kL _ hl]
 ·intro h
  apply UInt8.toNat_inj.1
  show c.toNat=(UInt8.ofNat (bt s i)).toNat
  rw [kL _ hl,h]
theorem zDh (s:ByteArray) (c1 c2:UInt8) (hs:s.size≤2147483647) (w:World) :
  Calls Tryz.prog 159 #[.string s,.string ⟨#[c1,c2]⟩] w fun e w'=>e=.returned (.int .i64 (powL c1.toNat c2.toNat (zA s):Nat))∧Below w.heap.size w w':=by
 have HQ:Hid (∀ w' n,powL c1.toNat c2.toNat (zA s)=n→Below w.heap.size w w'→(fun (e:Ending) w'=>e=.returned (.int .i64 (powL c1.toNat c2.toNat (zA s):Nat))∧Below w.heap.size w w') (.returned (.int .i64 (n:Nat))) w'):=Hd fun w' n h h2=>⟨by rw [h],h2⟩
 generalize (fun (e:Ending) w'=>e=.returned (.int .i64 (powL c1.toNat c2.toNat (zA s):Nat))∧Below w.heap.size w w')=Q at *
 by_cases h0:s.size=0
 ·have he:=zDg s h0
  have hb:=zEg s h0
  have HV:=Hd (show powL c1.toNat c2.toNat (zA s)=0 by rw [zWg s h0];rfl)
  go_enter Tryz.func159,Tryz.ntmps159
  go_wp2_with fail
  show Q (.returned (.int .i64 0)) _
  exact HQ.out _ 0 HV.out (Below.refl _ _)
 ·have hpos:0<s.size:=by omega
  have hpos':(0:Int)<s.size:=by omega
  have he:=zFy s hpos
  have hb:=zHa s hpos
  have y0:∀ h,((s[0]'h).toNat:Int)=(bt s 0:Int):=fun h=>by rw [yH s 0 h]
  have CI:∀ w,Calls Tryz.prog 135 #[.string ⟨#[c1,c2]⟩,.int .u8 (bt s 0:Int)] w fun e w'=>e=.returned (.int .i64 (if bt s 0=c1.toNat then 0 else if bt s 0=c2.toNat then 1 else -1))∧w=w':=fun w=>(Tryz.strings_IndexByte ⟨#[c1,c2]⟩ (bt s 0:Int) w).mono fun e w' ⟨h1,h2⟩=>by
   refine ⟨?_,h2.symm⟩
   rw [h1]
   show Ending.returned (.int .i64 (Lib.indexByte [c1,c2] _))=_
   rw [zTe]
   simp only [zWh]
  have hH:=zEf s hpos
  by_cases hc:bt s 0=c1.toNat∨bt s 0=c2.toNat
  ·have HV:Hid (powL c1.toNat c2.toNat (zA s)=if 0<rowL 10 ((zA s).drop (signed (zA s))) then signed (zA s)+rowL 10 ((zA s).drop (signed (zA s))) else 0):=Hd (by
    unfold powL
    rw [if_pos (by rw [hH];simpa using hc)])
   have CI2:Hid (∀ w,Calls Tryz.prog 135 #[.string ⟨#[c1,c2]⟩,.int .u8 (bt s 0:Int)] w fun e w'=>(e=.returned (.int .i64 0)∨e=.returned (.int .i64 1))∧w=w'):=Hd fun w=>(CI w).mono fun e w' ⟨h1,h2⟩=>by
    refine ⟨?_,h2⟩
    rw [h1]
    by_cases h:bt s 0=c1.toNat
    ·rw [if_pos h];exact Or.inl rfl
    ·rw [if_neg h,if_pos (hc.resolve_left h)];exact Or.inr rfl
   clear CI hc hH
   have CR:=Hd (fun k w=>kU (s.extract k s.size) 10 (by omega) (by rw [ByteArray.size_extract];omega) w)
   have hS:signed (zA s)=if 1<s.size∧(bt s 1=43∨bt s 1=45) then 2 else 1:=by
    unfold signed
    by_cases h1:1<s.size
    ·rw [kG s 1 h1]
     by_cases h2:bt s 1=43∨bt s 1=45
     ·rw [if_pos (by simpa using h2),if_pos ⟨h1,h2⟩]
     ·rw [if_neg (by simpa using h2),if_neg (fun h=>h2 h.2)]
    ·rw [zJv s 1 (by omega),if_neg (by simp),if_neg (fun h=>h1 h.1)]
   by_cases hsg:1<s.size∧(bt s 1=43∨bt s 1=45)
   ·rw [if_pos hsg] at hS
    rw [hS] at HV
    obtain ⟨h1,h2⟩:=hsg
    have h1':(1:Int)<s.size:=by omega
    have h2':(2:Int)≤s.size:=by omega
    have y1:∀ h,((s[1]'h).toNat:Int)=(bt s 1:Int):=fun h=>by rw [yH s 1 h]
    have CR2:=Hd (CR.out 2)
    have hle:=kI 10 ((zA s).drop 2)
    rw [List.length_drop,zH] at hle
    rw [xL] at CR2
    clear CR hS
    generalize rowL 10 ((zA s).drop 2)=k at *
    generalize bt s 0=c at *
    generalize bt s 1=d at *
    rcases h2 with rfl | rfl
    all_goals (
     go_enter Tryz.func159,Tryz.ntmps159
     go_wp2_with fail
     refine (CI2.out _).mono ?_
     rintro e w1 ⟨he1,rfl⟩
     rcases he1 with rfl | rfl
     all_goals (
      go_wp2_with fail
      refine (CR2.out _).mono ?_
      rintro e w1 ⟨rfl,hb1⟩
      have HB1:=Hd hb1
      clear hb1
      by_cases hk:0<k
      ·have hk':(0:Int)<k:=by omega
       go_wp2_with fail
       show Q (.returned (.int .i64 (2+(k:Int)))) _
       rw [show 2+(k:Int)=((2+k:Nat):Int) by omega]
       exact HQ.out _ _ (by rw [HV.out,if_pos hk]) HB1.out
      ·have hk':¬ (0:Int)<k:=by omega
       go_wp2_with fail
       show Q (.returned (.int .i64 0)) _
       exact HQ.out _ 0 (by rw [HV.out,if_neg hk]) HB1.out))
   ·rw [if_neg hsg] at hS
    rw [hS] at HV
    have CR2:=Hd (CR.out 1)
    have h1':(1:Int)≤s.size:=by omega
    have hle:=kI 10 ((zA s).drop 1)
    rw [List.length_drop,zH] at hle
    rw [xL] at CR2
    clear CR hS
    generalize rowL 10 ((zA s).drop 1)=k at *
    generalize bt s 0=c at *
    by_cases h1:1<s.size
    ·have h1'':(1:Int)<s.size:=by omega
     have y1:∀ h,((s[1]'h).toNat:Int)=(bt s 1:Int):=fun h=>by rw [yH s 1 h]
     have g1:¬ (bt s 1:Int)=43:=fun h=>hsg ⟨h1,Or.inl (by omega)⟩
     have g2:¬ (bt s 1:Int)=45:=fun h=>hsg ⟨h1,Or.inr (by omega)⟩
     have g1b:((bt s 1:Int) == 43)=false:=by rw [beq_eq_false_iff_ne];exact g1
     have g2b:((bt s 1:Int) == 45)=false:=by rw [beq_eq_false_iff_ne];exact g2
     clear hsg
     generalize bt s 1=d at *
     go_enter Tryz.func159,Tryz.ntmps159
     go_wp2_with fail
     refine (CI2.out _).mono ?_
     rintro e w1 ⟨he1,rfl⟩
     rcases he1 with rfl | rfl
     all_goals (
      go_wp2_with fail
      refine (CR2.out _).mono ?_
      rintro e w1 ⟨rfl,hb1⟩
      have HB1:=Hd hb1
      clear hb1
      by_cases hk:0<k
      ·have hk':(0:Int)<k:=by omega
       go_wp2_with fail
       show Q (.returned (.int .i64 (1+(k:Int)))) _
       rw [show 1+(k:Int)=((1+k:Nat):Int) by omega]
       exact HQ.out _ _ (by rw [HV.out,if_pos hk]) HB1.out
      ·have hk':¬ (0:Int)<k:=by omega
       go_wp2_with fail
       show Q (.returned (.int .i64 0)) _
       exact HQ.out _ 0 (by rw [HV.out,if_neg hk]) HB1.out)
    ·have h1'':¬ (1:Int)<s.size:=by omega
     clear hsg
     go_enter Tryz.func159,Tryz.ntmps159
     go_wp2_with fail
     refine (CI2.out _).mono ?_
     rintro e w1 ⟨he1,rfl⟩
     rcases he1 with rfl | rfl
     all_goals (
      go_wp2_with fail
      refine (CR2.out _).mono ?_
      rintro e w1 ⟨rfl,hb1⟩
      have HB1:=Hd hb1
      clear hb1
      by_cases hk:0<k
      ·have hk':(0:Int)<k:=by omega
       go_wp2_with fail
       show Q (.returned (.int .i64 (1+(k:Int)))) _
       rw [show 1+(k:Int)=((1+k:Nat):Int) by omega]
       exact HQ.out _ _ (by rw [HV.out,if_pos hk]) HB1.out
      ·have hk':¬ (0:Int)<k:=by omega
       go_wp2_with fail
       show Q (.returned (.int .i64 0)) _
       exact HQ.out _ 0 (by rw [HV.out,if_neg hk]) HB1.out)
  ·have HV:Hid (powL c1.toNat c2.toNat (zA s)=0):=Hd (by
    unfold powL
    rw [if_neg (by rw [hH];simpa using hc)])
   have CI2:Hid (∀ w,Calls Tryz.prog 135 #[.string ⟨#[c1,c2]⟩,.int .u8 (bt s 0:Int)] w fun e w'=>e=.returned (.int .i64 (-1))∧w=w'):=Hd fun w=>(CI w).mono fun e w' ⟨h1,h2⟩=>by
    refine ⟨?_,h2⟩
    rw [h1,if_neg (fun h=>hc (Or.inl h)),if_neg (fun h=>hc (Or.inr h))]
   clear CI hc hH
   generalize bt s 0=c at *
   go_enter Tryz.func159,Tryz.ntmps159
   go_wp2_with fail
   refine (CI2.out _).mono ?_
   rintro e w1 ⟨rfl,rfl⟩
   go_wp2_with fail
   show Q (.returned (.int .i64 0)) _
   exact HQ.out _ 0 HV.out (Below.refl _ _)

theorem zAr (c:UInt8) (l:List UInt8):Lib.hasPrefix l [c]=true↔l.head?=some c:=by
 unfold Lib.hasPrefix
 cases l with
 | nil=>simp [List.isPrefixOf]
 | cons d t=>simp [List.isPrefixOf];exact eq_comm
def bareS (s:ByteArray):ByteArray:=⟨(Lib.trimPrefix s.data.toList [95]).toArray⟩
theorem zLq (s:ByteArray):s.data.toList.head?=some 95↔(zA s).head?=some 95:=by
 unfold zA
 rw [List.head?_map]
 cases h:s.data.toList.head? with
 | none=>simp
 | some c =>
  simp only [Option.map_some,Option.some.injEq]
  constructor
  ·rintro rfl;rfl
  ·intro h;exact UInt8.toNat_inj.1 (by rw [h];rfl)
theorem zBz (s:ByteArray):zA (bareS s)=bare (zA s):=by
 unfold bareS bare Lib.trimPrefix
 by_cases h:s.data.toList.head?=some 95
 ·rw [if_pos ((zAr 95 _).2 h),if_pos ((zLq s).1 h)]
  unfold zA
  try simp
 ·rw [if_neg (fun hh=>h ((zAr 95 _).1 hh)),if_neg (fun hh=>h ((zLq s).2 hh))]
theorem zHb (s:ByteArray):(bareS s).size≤s.size:=by
 rw [← zH,← zH,zBz]
 unfold bare
 split
 ·simp
 ·exact Nat.le_refl _
theorem zQd (b:Nat) (t:ByteArray):rowOK b (zA t)=(decide (0<t.size)&&decide (rowL b (zA t)=t.size)):=by
 rw [Bool.eq_iff_iff,gR,zH]
 simp only [Bool.and_eq_true,decide_eq_true_eq]
 constructor
 ·rintro ⟨h1,h2⟩
  refine ⟨?_,h2⟩
  rw [← zH];exact List.length_pos_iff.2 h1
 ·rintro ⟨h1,h2⟩
  refine ⟨?_,h2⟩
  rw [← zH] at h1;exact List.length_pos_iff.1 h1
theorem zAs (s:ByteArray) (b:Nat) (hb:b≤16) (hs:s.size≤2147483647) (w:World) :
  Calls Tryz.prog 138 #[.string s,.int .i64 (b:Int)] w fun e w'=>e=.returned (.int .u8 (wholeL b (zA s):Nat))∧Below w.heap.size w w':=by
 have HQ:Hid (∀ w' n,wholeL b (zA s)=n→Below w.heap.size w w'→(fun (e:Ending) w'=>e=.returned (.int .u8 (wholeL b (zA s):Nat))∧Below w.heap.size w w') (.returned (.int .u8 (n:Nat))) w'):=Hd fun w' n h h2=>⟨by rw [h],h2⟩
 generalize (fun (e:Ending) w'=>e=.returned (.int .u8 (wholeL b (zA s):Nat))∧Below w.heap.size w w')=Q at *
 have CT:Hid (∀ w,Calls Tryz.prog 157 #[.string s,.string ⟨#[95]⟩] w fun e w'=>e=.returned (.string (bareS s))∧w'=w):=Hd fun w=>Tryz.strings_TrimPrefix s ⟨#[95]⟩ w
 have HV:Hid (wholeL b (zA s)=if (decide (0<(bareS s).size)&&decide (rowL b (zA (bareS s))=(bareS s).size))=true then 3 else 0):=Hd (by
  unfold wholeL
  rw [← zBz,zQd])
 have hsz:=zHb s
 generalize bareS s=t at *
 have CR:=Hd (kU t b hb (by omega))
 by_cases h0:t.size=0
 ·have he:=zDg t h0
  have hb:=zEg t h0
  go_enter Tryz.func138,Tryz.ntmps138
  go_wp2_with fail
  refine (CT.out _).mono ?_
  rintro e w1 ⟨rfl,rfl⟩
  go_wp2_with fail
  show Q (.returned (.int .u8 0)) _
  exact HQ.out _ 0 (by rw [HV.out];simp [h0]) (Below.refl _ _)
 ·have hpos:0<t.size:=by omega
  have he:=zFy t hpos
  have hb:=zHa t hpos
  have hle:=kI b (zA t)
  generalize rowL b (zA t)=k at *
  by_cases hk:k=t.size
  ·have hkb:((k:Int) == (t.size:Int))=true:=by rw [hk];simp
   go_enter Tryz.func138,Tryz.ntmps138
   go_wp2_with fail
   refine (CT.out _).mono ?_
   rintro e w1 ⟨rfl,rfl⟩
   go_wp2_with fail
   refine (CR.out _).mono ?_
   rintro e w1 ⟨rfl,hb1⟩
   have HB1:=Hd hb1
   have HV2:Hid (wholeL b (zA s)=3):=Hd (by rw [HV.out];simp [hk,hpos])
   clear hb1 hk HV
   go_wp2_with fail
   show Q (.returned (.int .u8 3)) _
   exact HQ.out _ 3 HV2.out HB1.out
  ·have hkb:((k:Int) == (t.size:Int))=false:=by rw [beq_eq_false_iff_ne];omega
   go_enter Tryz.func138,Tryz.ntmps138
   go_wp2_with fail
   refine (CT.out _).mono ?_
   rintro e w1 ⟨rfl,rfl⟩
   go_wp2_with fail
   refine (CR.out _).mono ?_
   rintro e w1 ⟨rfl,hb1⟩
   have HB1:=Hd hb1
   have HV2:Hid (wholeL b (zA s)=0):=Hd (by rw [HV.out];simp [hk])
   have hk':¬ (k:Int)=t.size:=by omega
   clear hb1 hk HV
   go_wp2_with fail
   show Q (.returned (.int .u8 0)) _
   exact HQ.out _ 0 HV2.out HB1.out
end Go.Proofs.YtfalelkfhandfaaGreatDoor
