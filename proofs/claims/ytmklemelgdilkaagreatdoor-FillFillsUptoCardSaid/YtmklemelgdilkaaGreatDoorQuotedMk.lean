/- Layer 6: the program's reader, walked. -/
import Derived.Test.YtmklemelgdilkaaGreatDoorShelfQMk
import Derived.Test.YtmklemelgdilkaaGreatDoorClassMk
import Derived.Test.YtmklemelgdilkaaGreatDoorQuotedPMk
import Derived.Lib.AppendStr
import Derived.Deep.RegionHeldLaw
import Derived.Deep.RegionLaw
import Derived.Deep.QuietTactic
import Derived.BigQuiet
namespace Go.Proofs.YtmklemelgdilkaaGreatDoor
set_option linter.all false
open Go.RowKit

structure RS (w:World) (b:Nat) (s:ByteArray) (i mark:Int) (l:List Int) (bad:Bool):Prop where
 tabs:Tabs w
 lt1:0<b
 lt2:1<b
 row:∃ out,w.heap[b]?=some (.cells #[.string s,.int .i64 i,.int .u8 mark,out,.bool bad] 146 (0,0))∧w.ownsRow (b+1) 5 1 out l.length (l.map (Value.int .u8))

theorem Tabs.same {w w':World} (h:Tabs w) (h1:w'.heap[0]?=w.heap[0]?) (h2:w'.heap[1]?=w.heap[1]?) (hs:w.heap.size≤w'.heap.size):Tabs w':=by
 obtain ⟨⟨g1,g2⟩,h3,h4⟩:=h
 refine ⟨⟨fun c hc=>?_,fun i hi=>⟨?_,?_⟩⟩,Nat.lt_of_lt_of_le h3 hs,Nat.lt_of_lt_of_le h4 hs⟩
 ·rw [World.cell?_of_block h1];exact g1 c hc
 ·rw [World.cell?_of_block h2];exact (g2 i hi).1
 ·rw [World.cell?_of_block h2];exact (g2 i hi).2
theorem owns_blk {w w':World} {B:Nat} {v:Value} {e:TypeId} {size n:Nat} {xs:List Value} (h:w.ownsRow B e size v n xs) (hb:∀ g,B≤g→g<w.heap.size→w'.heap[g]?=w.heap[g]?):w'.ownsRow B e size v n xs:=by
 obtain ⟨h1,h2⟩:=h
 refine ⟨h1,?_⟩
 rcases h2 with h2 | ⟨g,cap,cur,hv,hg,hh,r⟩
 ·exact Or.inl h2
 ·exact Or.inr ⟨g,cap,cur,hv,hg,by rw [hb g hg (keeps_lt hh)];exact hh,r⟩
theorem step_append_str {P:Program} {ops:Array Oper} {o:Oper} {a:Act} {w:World} {K:Act→World→Prop} {Q:Exit→Act→World→Prop} {E:Prop}
  (hgd:o.guard=none) (sl x:Operand) (t u:TypeId) (ho:o.op=.call { callee:=.builtin .append,args:=#[sl,x],argTypes:=#[t,u] })
  (base:Nat) (e:TypeId) (ht:P.underlying t=some (.slice e)) (hu:P.underlying u=some .string) (hinfo:(P.info? e).map (fun i=>(i.zero,i.size,i.bytes))=some (some (.int .u8 0),1,1))
  (v:Value) (n:Nat) (xs:List Value) (hs:a.eval sl=v) (hown:w.ownsRow base e 1 v n xs) (s:ByteArray) (hx:a.eval x=.string s)
  (hbytes:n+s.size≤140737488355328) (hbase:base≤w.heap.size)
  (h:∀ v' w',w'.ownsRow base e 1 v' (n+s.size) (xs++Lib.strCells s)→w.grownBy w' v.ownBlock→K (a.put o.dst v') w') :
  if Region.wanted o (yielded ops a.tmps)=true then Oper.wp P o a w K Q else E:=by
 obtain ⟨i,hi,hz0,hz1,hz2⟩:=info_parts hinfo
 have hw:Region.wanted o (yielded ops a.tmps)=true:=by simp [Region.wanted,hgd]
 rw [if_pos hw]
 obtain ⟨v',w',hr,h2,h3,h4⟩:=Lib.run_append_own_string (P:=P) w base t u o.type e i ht hu hi hz0 hz1 hz2 v n xs hown s (by unfold maxLen;omega) hbytes hbase
 unfold Oper.wp execOp
 simp only [ho,resolve,invoke,builtin,Sem.run_bind,Sem.run_pure,Result.andThen_ok,List.map_toArray,List.map_cons,List.map_nil,hs,hx,hr]
 exact h v' w' h2 h3
section
variable {w:World} {b:Nat} {s:ByteArray} {i mark:Int} {l:List Int} {bad:Bool}
theorem RS.at' (h:RS w b s i mark l bad) (j:Int):RS (w.setCell ⟨b,1,none⟩ (.int .i64 j)) b s j mark l bad:=by
 obtain ⟨ht,h1,h2,out,hh,ho⟩:=h
 refine ⟨ht.same (heap_setCell_other _ _ _ _ (Nat.ne_of_lt h1)) (heap_setCell_other _ _ _ _ (Nat.ne_of_lt h2)) (by simp [World.setCell]),h1,h2,out,?_,?_⟩
 ·rw [heap_setCell_same w b 1 _ _ _ hh];rfl
 ·exact owns_blk ho fun g hg _=>heap_setCell_other _ _ _ _ (by show g≠b;omega)
theorem RS.mark' (h:RS w b s i mark l bad) (j:Int):RS (w.setCell ⟨b,2,none⟩ (.int .u8 j)) b s i j l bad:=by
 obtain ⟨ht,h1,h2,out,hh,ho⟩:=h
 refine ⟨ht.same (heap_setCell_other _ _ _ _ (Nat.ne_of_lt h1)) (heap_setCell_other _ _ _ _ (Nat.ne_of_lt h2)) (by simp [World.setCell]),h1,h2,out,?_,?_⟩
 ·rw [heap_setCell_same w b 2 _ _ _ hh];rfl
 ·exact owns_blk ho fun g hg _=>heap_setCell_other _ _ _ _ (by show g≠b;omega)
theorem RS.bad' (h:RS w b s i mark l bad) (c:Bool):RS (w.setCell ⟨b,4,none⟩ (.bool c)) b s i mark l c:=by
 obtain ⟨ht,h1,h2,out,hh,ho⟩:=h
 refine ⟨ht.same (heap_setCell_other _ _ _ _ (Nat.ne_of_lt h1)) (heap_setCell_other _ _ _ _ (Nat.ne_of_lt h2)) (by simp [World.setCell]),h1,h2,out,?_,?_⟩
 ·rw [heap_setCell_same w b 4 _ _ _ hh];rfl
 ·exact owns_blk ho fun g hg _=>heap_setCell_other _ _ _ _ (by show g≠b;omega)
theorem RS.drew (h:RS w b s i mark l bad):RS w.drew b s i mark l bad:=⟨h.tabs,h.lt1,h.lt2,h.row⟩
theorem RS.drewN (h:RS w b s i mark l bad) (n:Nat):RS (w.drewN n) b s i mark l bad:=⟨h.tabs,h.lt1,h.lt2,h.row⟩
theorem RS.below (h:RS w b s i mark l bad) {w':World} (hb:Below w.heap.size w w'):RS w' b s i mark l bad:=by
 obtain ⟨ht,h1,h2,out,hh,ho⟩:=h
 exact ⟨ht.below hb,h1,h2,out,keeps hb hh,owns_below ho hb⟩
theorem RS.lt (h:RS w b s i mark l bad):b<w.heap.size:=by obtain ⟨_,_,_,out,hh,_⟩:=h;exact keeps_lt hh
theorem RS.c0 (h:RS w b s i mark l bad):w.cell? ⟨b,0,none⟩=some (.string s):=by
 obtain ⟨_,_,_,out,hh,_⟩:=h;simp [World.cell?,hh]
theorem RS.c1 (h:RS w b s i mark l bad):w.cell? ⟨b,1,none⟩=some (.int .i64 i):=by
 obtain ⟨_,_,_,out,hh,_⟩:=h;simp [World.cell?,hh]
theorem RS.c2 (h:RS w b s i mark l bad):w.cell? ⟨b,2,none⟩=some (.int .u8 mark):=by
 obtain ⟨_,_,_,out,hh,_⟩:=h;simp [World.cell?,hh]
theorem RS.c4 (h:RS w b s i mark l bad):w.cell? ⟨b,4,none⟩=some (.bool bad):=by
 obtain ⟨_,_,_,out,hh,_⟩:=h;simp [World.cell?,hh]
theorem RS.c3 (h:RS w b s i mark l bad):∃ out,w.cell? ⟨b,3,none⟩=some out∧w.ownsRow (b+1) 5 1 out l.length (l.map (Value.int .u8)):=by
 obtain ⟨_,_,_,out,hh,ho⟩:=h;exact ⟨out,by simp [World.cell?,hh],ho⟩
theorem RS.fz (h:RS w b s i mark l bad) (k:Nat):w.frozen? ⟨b,k,none⟩=false:=by
 obtain ⟨_,_,_,out,hh,_⟩:=h;simp [World.frozen?,hh]
theorem RS.grew (h:RS w b s i mark l bad) {w1 w':World} (hb:Below w.heap.size w w1) {out out':Value} (hc:w.cell? ⟨b,3,none⟩=some out) (hg:w1.grownBy w' out.ownBlock) {l':List Int} {xs:List Value} {n:Nat} (hn:n=l'.length) (hx:xs=l'.map (Value.int .u8))
  (ho:w'.ownsRow (b+1) 5 1 out' n xs):RS (w'.setCell ⟨b,3,none⟩ out') b s i mark l' bad:=by
 subst hn;subst hx
 have hlt:=h.lt
 obtain ⟨ht,h1,h2,out0,hh,ho0⟩:=h
 obtain rfl:out0=out:=by
  have:w.cell? ⟨b,3,none⟩=some out0:=by simp [World.cell?,hh]
  rw [this] at hc;exact Option.some.inj hc
 have hsz:=hb.size
 have hblk:∀ k,k≤b→w'.heap[k]?=w.heap[k]?:=by
  intro k hk
  rw [hg.block k (by omega) ?_,hb.block k (by omega)]
  intro e
  have:=(ho0.lt k e.symm).1
  omega
 have hs':=hg.size
 refine ⟨ht.same ?_ ?_ (by simp [World.setCell];omega),h1,h2,out',?_,?_⟩
 ·rw [heap_setCell_other _ _ _ _ (Nat.ne_of_lt h1)];exact hblk _ (by omega)
 ·rw [heap_setCell_other _ _ _ _ (Nat.ne_of_lt h2)];exact hblk _ (by omega)
 ·have hh':=(hblk b (Nat.le_refl _)).trans hh
  rw [heap_setCell_same w' b 3 _ _ _ hh'];rfl
 ·exact owns_blk ho fun g hg _=>heap_setCell_other _ _ _ _ (by show g≠b;omega)
theorem RS.grew_cell (h:RS w b s i mark l bad) {w1 w':World} (hb:Below w.heap.size w w1) {out:Value} (hc:w.cell? ⟨b,3,none⟩=some out) (hg:w1.grownBy w' out.ownBlock):w'.cell? ⟨b,3,none⟩=some out∧w'.frozen? ⟨b,3,none⟩=false:=by
 have hlt:=h.lt
 have hz:=h.fz 3
 obtain ⟨ht,h1,h2,out0,hh,ho0⟩:=h
 obtain rfl:out0=out:=by
  have:w.cell? ⟨b,3,none⟩=some out0:=by simp [World.cell?,hh]
  rw [this] at hc;exact Option.some.inj hc
 have hsz:=hb.size
 have hblk:w'.heap[b]?=w.heap[b]?:=by
  rw [hg.block b (by omega) ?_,hb.block b (by omega)]
  intro e
  have:=(ho0.lt b e.symm).1
  omega
 exact ⟨by rw [World.cell?_of_block hblk];exact hc,by rw [World.frozen?_of_block hblk];exact hz⟩
theorem RS.grew_below (h:RS w b s i mark l bad) {w0 w1 w':World} (h0:Below b w0 w) (hb:Below w.heap.size w w1) {out out':Value} (hc:w.cell? ⟨b,3,none⟩=some out) (hg:w1.grownBy w' out.ownBlock):Below b w0 (w'.setCell ⟨b,3,none⟩ out'):=by
 have hlt:=h.lt
 obtain ⟨ht,h1,h2,out0,hh,ho0⟩:=h
 obtain rfl:out0=out:=by
  have:w.cell? ⟨b,3,none⟩=some out0:=by simp [World.cell?,hh]
  rw [this] at hc;exact Option.some.inj hc
 have hsz:=hb.size
 refine Below.setCell ?_ (Nat.le_refl b) _
 refine (h0.trans (hb.mono (by omega))).grown hg (by omega) fun k hk=>?_
 have:=(ho0.lt k hk).1
 omega
end

theorem bdrewN {B:Nat} {a w:World} (h:Below B a w) (n:Nat):Below B a (w.drewN n):=⟨h.os,h.tape,h.output,h.size,h.block⟩
theorem num_next (s:ByteArray) (bs:Int) (i c:Nat) (n:Int) (h:i<s.size) (h0:0≤base (bt s i)) (h1:base (bt s i)<bs):num s bs i (c+1) n=num s bs (i+1) c (n*bs+base (bt s i)):=by
 rw [num,if_pos ⟨h,h0,h1⟩]
theorem num_no (s:ByteArray) (bs:Int) (i c:Nat) (n:Int) (h:¬ (i<s.size∧0≤base (bt s i)∧base (bt s i)<bs)):num s bs i (c+1) n=none:=by
 rw [num,if_neg h]
@[irreducible] def numPost (s:ByteArray) (b i:Nat) (mark:Int) (l:List Int) (bs:Int) (count:Nat) (w0:World) (e:Ending) (w':World):Prop :=
 Below b w0 w'∧((∃ n,num s bs i count 0=some n∧e=.returned (.int .i64 n)∧RS w' b s (i+count:Nat) mark l false)∨(num s bs i count 0=none∧e=.returned (.int .i64 0)∧∃ j,RS w' b s j mark l true))
set_option maxRecDepth 100000 in
set_option maxHeartbeats 2000000 in
theorem reader_number (s:ByteArray) (b i:Nat) (mark:Int) (l:List Int) (bs:Int) (hbs:bs=8∨bs=16) (count:Nat) (hcnt:count≤8) (w0:World) (hR:RS w0 b s i mark l false) (hs:s.size≤140737488355328) (hi:i≤s.size) :
  Calls Tryz.prog 139 #[.pointer (some ⟨b,0,none⟩),.int .i64 count,.int .i64 bs] w0 (numPost s b i mark l bs count w0):=by
 have HQ:RowKit.Hid (∀ e w',Below b w0 w'∧((∃ n,num s bs i count 0=some n∧e=.returned (.int .i64 n)∧RS w' b s (i+count:Nat) mark l false)∨(num s bs i count 0=none∧e=.returned (.int .i64 0)∧∃ j,RS w' b s j mark l true))→numPost s b i mark l bs count w0 e w') :=
  Hd fun e w' h=>by unfold numPost;exact h
 generalize numPost s b i mark l bs count w0=Q at *
 have HB:=Hd class_Base
 have HR:=Hd hR
 clear hR
 go_enter Tryz.func139,Tryz.ntmps139
 go_wp2_with fail
 go_loopw [7,10] (fun n k wr=>∃ (kk:Nat) (nn:Int),kk≤count∧n=.int .i64 nn∧k=.int .i64 kk∧0≤nn∧nn<16 ^ kk∧i+kk≤s.size∧num s bs i count 0=num s bs (i+kk) (count-kk) nn∧Below b w0 wr∧RS wr b s (i+kk:Nat) mark l false) (fun _ k _=>count-(intOf k).toNat)
 case atStart=>exact ⟨0,0,Nat.zero_le _,rfl,rfl,by omega,by omega,by omega,rfl,Below.refl _ _,HR.out⟩
 case round =>
  obtain ⟨k,n,hk,rfl,rfl,hn0,hn1,hik,hnum,hb,hr⟩:=hrel
  have c0:=hr.c0;have c1:=hr.c1;have z1:=hr.fz 1;have z4:=hr.fz 4
  have HN:=Hd hnum
  have HRR:=Hd hr
  clear hnum hr
  by_cases hlt:k<count
  ·have hkl:(k:Int)<count:=by omega
   by_cases hp:i+k<s.size
   ·have hpl:((i+k:Nat):Int)<s.size:=by omega
    have hp0:(0:Int)≤((i+k:Nat):Int):=by omega
    generalize hW:i+k=p at *
    have hw:IntKind.i32.wrap ((s[p]'hp).toNat:Int)=(bt s p:Int):=by
     rw [bt_at s p hp];have:=bt_lt s p;unfold IntKind.wrap;simp [IntKind.signed,IntKind.bits];omega
    have hbt:=bt_lt s p
    have hyes:=num_next s bs p (count-k-1) n hp
    have hno:=num_no s bs p (count-k-1) n
    have hrange:=base_range (bt s p)
    have C:=fun w=>class_Base (bt s p) (by omega) w
    generalize hx:base (bt s p)=x at *
    generalize bt s p=c at *
    have HX:=Hd hx
    have HC:=Hd C
    have HY:=Hd hyes
    have HNO:=Hd hno
    clear hx C hyes hno
    go_wp2_with fail
    go_quiet (fail)
    have hr1:=HRR.out.drewN nq
    have hb1:=bdrewN hb nq
    generalize wr.drewN nq=w1 at *
    have c0:=hr1.c0;have c1:=hr1.c1
    have HR1:=Hd hr1
    clear hr1
    go_wp2_with fail
    have HC':∀ n,Calls Tryz.prog 150 #[.int .i32 (c:Int)] (w1.drewN n) fun e w''=>e=.returned (.int .i64 x)∧∃ m,w''=w1.drewN m:=fun n=>Calls.quiet_of_same ((HC.out _).mono fun e w' h=>⟨h.1,h.2.symm⟩)
    have HCC:=Hd HC'
    clear HC'
    go_quiet (exact HCC.out _)
    have hr2:=HR1.out.drewN nq
    have hb2:=bdrewN hb1 nq
    generalize w1.drewN nq=w2 at *
    have c1:=hr2.c1;have z1:=hr2.fz 1;have z4:=hr2.fz 4;have c4:=hr2.c4
    have HR2:=Hd hr2
    clear hr2 HR1 hb1
    have hbad:∀ (hx:x<0∨bs≤x),Q (.returned (.int .i64 0)) (w2.setCell ⟨b,4,none⟩ (.bool true)):=fun hx=>by
     refine HQ.out _ _ ⟨hb2.setCell (by exact Nat.le_refl b) _,Or.inr ⟨?_,rfl,_,HR2.out.bad' true⟩⟩
     rw [HN.out,show count-k=count-k-1+1 by omega]
     exact HNO.out (by omega)
    have HBad:=Hd hbad
    clear hbad
    have hgood:0≤x→x<bs→num s bs i count 0=num s bs (i+(k+1)) (count-(k+1)) (n*bs+x):=fun h1 h2=>by
     rw [HN.out,show count-k=count-k-1+1 by omega,HY.out h1 h2]
     congr 1 <;> omega
    have HGood:=Hd hgood
    clear hgood HN HY HNO
    by_cases g0:x<0
    ·go_wp2_with fail
     show Q (.returned (.int .i64 0)) _
     exact HBad.out (Or.inl g0)
    ·by_cases g1:bs≤x
     ·go_wp2_with fail
      show Q (.returned (.int .i64 0)) _
      exact HBad.out (Or.inr g1)
     ·have hpow:(16:Int) ^ k≤16 ^ 7:=by
       have:16 ^ k≤16 ^ 7:=Nat.pow_le_pow_right (by omega) (by omega)
       exact_mod_cast this
      have hpow1:(16:Int) ^ (k+1)=16 ^ k*16:=Int.pow_succ _ _
      have hm1:0≤n*bs∧n*bs≤n*16:=by rcases hbs with rfl | rfl <;> omega
      have hm2:n*bs+x<16 ^ (k+1):=by omega
      have hw1:IntKind.i64.wrap (n*bs)=n*bs:=by unfold IntKind.wrap;simp [IntKind.signed,IntKind.bits];omega
      have hw2:IntKind.i64.wrap (n*bs+x)=n*bs+x:=by unfold IntKind.wrap;simp [IntKind.signed,IntKind.bits];omega
      have hm3:0≤n*bs+x:=by omega
      have hm4:n*bs+x<16 ^ 9:=by omega
      generalize hmul:n*bs=m at *
      go_wp2_with fail
      go_roundw
      case rel=>exact ⟨k+1,m+x,by omega,by go_num,by go_num,hm3,hm2,by omega,HGood.out (by omega) (by omega),hb2.setCell (by exact Nat.le_refl b) _,by
       have:=HR2.out.at' (i+(k+1):Nat)
       have e:(p:Int)+1=((i+(k+1):Nat):Int):=by omega
       rw [e];exact this⟩
      case measure=>simp [intOf];omega
   ·have hpl:(s.size:Int)≤((i+k:Nat):Int):=by omega
    have c4:=HRR.out.c4
    have hno:=num_no s bs (i+k) (count-k-1) n
    have HNO:=Hd hno
    clear hno
    generalize hW:i+k=p at *
    go_wp2_with fail
    go_quiet (fail)
    have hr1:=HRR.out.drewN nq
    have hb1:=bdrewN hb nq
    generalize wr.drewN nq=w1 at *
    have c4:=hr1.c4;have z4:=hr1.fz 4
    have HR1:=Hd hr1
    clear hr1
    have h99:bs≤99:=by omega
    go_wp2_with fail
    show Q (.returned (.int .i64 _)) _
    refine HQ.out _ _ ⟨hb1.setCell (by exact Nat.le_refl b) _,Or.inr ⟨?_,rfl,_,HR1.out.bad' true⟩⟩
    rw [HN.out,show count-k=count-k-1+1 by omega]
    exact HNO.out (by omega)
  ·have hkl:(count:Int)≤k:=by omega
   obtain rfl:k=count:=by omega
   go_wp2_with fail
   show Q (.returned (.int .i64 _)) _
   refine HQ.out _ _ ⟨hb,Or.inl ⟨n,?_,rfl,HRR.out⟩⟩
   rw [HN.out,Nat.sub_self,num]

theorem strCells_nums (s:ByteArray):Lib.strCells s=(nums s).map (Value.int .u8):=by
 unfold Lib.strCells nums;rw [List.map_map];rfl
theorem nums_form (r:Int):nums (form r)=formZ r:=by
 unfold form
 apply nums_strOfNums
 intro x hx
 unfold formZ at hx
 by_cases hm:may r=false
 ·rw [if_pos hm] at hx;cases hx
 ·have hm':=(may_iff r).1 (by simpa using hm)
  rw [if_neg hm] at hx
  repeat' split at hx
  all_goals (simp at hx;omega)
theorem formZ_len (r:Int):(formZ r).length≤4:=by
 unfold formZ
 by_cases h:may r=false
 ·rw [if_pos h];simp
 ·rw [if_neg h]
  by_cases h1:r<128
  ·rw [if_pos h1];simp
  ·rw [if_neg h1]
   by_cases h2:r<2048
   ·rw [if_pos h2];simp
   ·rw [if_neg h2]
    by_cases h3:r<65536
    ·rw [if_pos h3];simp
    ·rw [if_neg h3];simp
theorem form_empty (r:Int):form r=ByteArray.empty↔may r=false:=by
 constructor
 ·intro h
  by_cases hm:may r=true
  ·have:=form_pos hm;rw [h] at this;simp at this
  ·simpa using hm
 ·exact form_none
theorem info_u8:(Tryz.prog.info? 5).map (fun i=>(i.zero,i.size,i.bytes))=some (some (.int .u8 0),1,1):=by kernel_rfl
def codeZ (n:Int) (char:Bool) (mark:Int):Option (List Int):=if char=false∧mark=34 then some [n % 256] else if may n then some (formZ n) else none
@[irreducible] def codePost (s:ByteArray) (b:Nat) (i mark:Int) (l:List Int) (bad:Bool) (n:Int) (char:Bool) (w0:World) (e:Ending) (w':World):Prop :=
 Below b w0 w'∧e=.returned (.tuple #[])∧match codeZ n char mark with
  | some x=>RS w' b s i mark (l++x) bad
  | none=>RS w' b s i mark l true
set_option maxRecDepth 100000 in
set_option maxHeartbeats 2000000 in
theorem reader_code (s:ByteArray) (b:Nat) (i mark:Int) (l:List Int) (bad:Bool) (n:Int) (hn:0≤n∧n<4294967296) (char:Bool) (w0:World) (hR:RS w0 b s i mark l bad) (hl:l.length≤140737488355000) :
  Calls Tryz.prog 138 #[.pointer (some ⟨b,0,none⟩),.int .i64 n,.bool char] w0 (codePost s b i mark l bad n char w0):=by
 have HQ:RowKit.Hid (∀ e w',Below b w0 w'→e=.returned (.tuple #[])→(∀ x,codeZ n char mark=some x→RS w' b s i mark (l++x) bad)→(codeZ n char mark=none→RS w' b s i mark l true)→codePost s b i mark l bad n char w0 e w') :=
  Hd fun e w' h1 h2 h3 h4=>by
   unfold codePost
   refine ⟨h1,h2,?_⟩
   cases hz:codeZ n char mark with
   | some x=>exact h3 x hz
   | none=>exact h4 hz
 generalize codePost s b i mark l bad n char w0=Q at *
 have c2:=hR.c2;have z3:=hR.fz 3;have z4:=hR.fz 4
 obtain ⟨out,c3,ho⟩:=hR.c3
 have HR:=Hd hR
 have HO:=Hd ho
 have hR0:=hR
 clear hR ho
 by_cases hA:char=false∧mark=34
 ·clear hR0
  obtain ⟨rfl,rfl⟩:=hA
  go_enter Tryz.func138,Tryz.ntmps138
  have hb1:Below w0.heap.size w0 (w0.alloc (.cells #[.int .u8 (n % 256)] 5)):=(Below.refl _ w0).alloc (Nat.le_refl _) _
  have hwn:IntKind.u8.wrap n=n % 256:=by unfold IntKind.wrap;simp [IntKind.signed,IntKind.bits]
  go_wp2_with (at_builtin;refine wpList_append_lit w0 #[.int .u8 (n % 256)] _ rfl _ _ 144 5 rfl Tryz.underlying144 (b+1) info_u8 rfl (by decide) _ _ _ rfl HO.out 1 1 rfl rfl (by decide) (by intro u hu;simp at hu;subst hu;rfl) ?_ ?_ ?_ ?_)
  ·omega
  ·omega
  ·have:=HR.out.lt;omega
  intro v' w1 hown hgr _
  obtain ⟨c3',z3'⟩:=HR.out.grew_cell hb1 c3 hgr
  have hR':=HR.out.grew hb1 c3 hgr (l':=l++[n % 256]) (by simp) (by simp) hown
  have hB':=HR.out.grew_below (Below.refl b w0) (out':=v') hb1 c3 hgr
  obtain ⟨va,vm,vc,rfl⟩:=owns_slice hown
  have HR':=Hd hR'
  have HB':=Hd hB'
  clear hR' hB' hgr hown hb1
  go_wp2_with fail
  refine bodyPost_ret (results_none rfl _ _ _) rfl ?_
  refine HQ.out _ _ HB'.out rfl (fun x hx=>?_) (fun hx=>?_)
  ·simp only [codeZ,and_self,if_true,Option.some.injEq] at hx
   rw [← hx];exact HR'.out
  ·simp [codeZ] at hx
 ·have hz:codeZ n char mark=if may n then some (formZ n) else none:=by unfold codeZ;rw [if_neg hA]
  have c4:=hR0.c4
  clear hR0
  have HZ:=Hd hz
  clear hz
  have hmk:char=false→¬ mark=34:=fun h h'=>hA ⟨h,h'⟩
  clear hA
  by_cases hb1:1114111<n
  ·have hm:may n=false:=by rw [may_not];omega
   have HM:=Hd hm
   clear hm
   have HE:RowKit.Hid (Q (.returned (.tuple #[])) (w0.setCell ⟨b,4,none⟩ (.bool true))):=by
    refine Hd (HQ.out _ _ ((Below.refl b w0).setCell (by exact Nat.le_refl b) _) rfl (fun x hx=>?_) (fun _=>HR.out.bad' true))
    rw [HZ.out,if_neg (by rw [HM.out];decide)] at hx;cases hx
   rcases Bool.eq_false_or_eq_true char with rfl | rfl
   ·go_enter Tryz.func138,Tryz.ntmps138
    go_wp2_with fail
    refine bodyPost_ret (results_none rfl _ _ _) rfl ?_
    exact HE.out
   ·have hmk:=hmk rfl
    go_enter Tryz.func138,Tryz.ntmps138
    go_wp2_with fail
    refine bodyPost_ret (results_none rfl _ _ _) rfl ?_
    exact HE.out
  ·have hwn:IntKind.i32.wrap n=n:=by unfold IntKind.wrap;simp [IntKind.signed,IntKind.bits];omega
   have C:=fun w=>runes_Form n w
   have hfe:=form_empty n
   have hfl:=form_size n
   have hnum:=nums_form n
   generalize hF:form n=F at *
   have HF:=Hd hF
   have HN:=Hd hnum
   have HC:=Hd C
   clear hF hnum C
   by_cases hm:may n=false
   ·have HE:RowKit.Hid (Q (.returned (.tuple #[])) (w0.setCell ⟨b,4,none⟩ (.bool true))):=by
     refine Hd (HQ.out _ _ ((Below.refl b w0).setCell (by exact Nat.le_refl b) _) rfl (fun x hx=>?_) (fun _=>HR.out.bad' true))
     rw [HZ.out,if_neg (by rw [hm];decide)] at hx;cases hx
    have hF0:=hfe.2 hm
    subst hF0
    clear hfe hfl
    rcases Bool.eq_false_or_eq_true char with rfl | rfl
    ·go_enter Tryz.func138,Tryz.ntmps138
     go_wp2_with fail
     refine (HC.out _).mono ?_;rintro e w1 ⟨rfl,rfl⟩
     go_wp2_with fail
     refine bodyPost_ret (results_none rfl _ _ _) rfl ?_
     exact HE.out
    ·have hmk:=hmk rfl
     go_enter Tryz.func138,Tryz.ntmps138
     go_wp2_with fail
     refine (HC.out _).mono ?_;rintro e w1 ⟨rfl,rfl⟩
     go_wp2_with fail
     refine bodyPost_ret (results_none rfl _ _ _) rfl ?_
     exact HE.out
   ·have hF0:¬ F=ByteArray.empty:=fun h=>hm (hfe.1 h)
    have hF1:F.toList.isEmpty=false:=by
     rw [Bool.eq_false_iff]
     intro h
     apply hF0
     rw [List.isEmpty_iff,ByteArray.toList_eq] at h
     apply ByteArray.ext
     apply Array.ext'
     rw [h];rfl
    clear hfe hF0
    have hlen:l.length+F.size≤140737488355328:=by
     have h4:=formZ_len n
     omega
    have hbase:b+1≤w0.heap.size:=HR.out.lt
    have HRd:=Hd HR.out.drew
    have c3d:w0.drew.cell? ⟨b,3,none⟩=some out:=c3
    have HOd:RowKit.Hid (w0.drew.ownsRow (b+1) 5 1 out l.length (l.map (Value.int .u8))):=HO
    have he:∀ (v':Value) (w1:World),w1.ownsRow (b+1) 5 1 v' (l.length+F.size) (l.map (Value.int .u8)++Lib.strCells F)→w0.drew.grownBy w1 out.ownBlock→Q (.returned (.tuple #[])) (w1.setCell ⟨b,3,none⟩ v'):=fun v' w1 hown hgr=>by
     refine HQ.out _ _ (HRd.out.grew_below (Below.refl b w0).drew (Below.refl _ _) c3d hgr) rfl (fun x hx=>?_) (fun hx=>?_)
     ·rw [HZ.out,if_pos (by simpa using hm),Option.some.injEq] at hx
      refine HRd.out.grew (Below.refl _ _) c3d hgr ?_ ?_ hown
      ·rw [List.length_append,← hx,← HN.out,nums_length]
      ·rw [List.map_append,strCells_nums,HN.out,hx]
     ·rw [HZ.out,if_pos (by simpa using hm)] at hx;cases hx
    have HE:=Hd he
    clear he
    rcases Bool.eq_false_or_eq_true char with rfl | rfl
    ·go_enter Tryz.func138,Tryz.ntmps138
     go_wp2_with fail
     refine (HC.out _).mono ?_;rintro e w1 ⟨rfl,rfl⟩
     go_wp2_with fail
     go_region_law
      (first
       | (refine step_append_str rfl _ _ 144 9 rfl (b+1) 5 Tryz.underlying144 Tryz.underlying9 info_u8 out l.length (l.map (Value.int .u8)) rfl HOd.out F rfl hlen hbase ?_;intro v' w1 hown hgr;obtain ⟨c3',z3'⟩:=HRd.out.grew_cell (Below.refl _ _) c3d hgr;obtain ⟨va,vm,vc,rfl⟩:=owns_slice hown)
       | (go_simp;go_at_call 149;refine (HC.out _).mono ?_;rintro e w1 ⟨rfl,rfl⟩))
     all_goals (refine bodyPost_end (results_none rfl _ _ _) rfl ?_;exact HE.out _ _ hown hgr)
    ·have hmk:=hmk rfl
     go_enter Tryz.func138,Tryz.ntmps138
     go_wp2_with fail
     refine (HC.out _).mono ?_;rintro e w1 ⟨rfl,rfl⟩
     go_wp2_with fail
     go_region_law
      (first
       | (refine step_append_str rfl _ _ 144 9 rfl (b+1) 5 Tryz.underlying144 Tryz.underlying9 info_u8 out l.length (l.map (Value.int .u8)) rfl HOd.out F rfl hlen hbase ?_;intro v' w1 hown hgr;obtain ⟨c3',z3'⟩:=HRd.out.grew_cell (Below.refl _ _) c3d hgr;obtain ⟨va,vm,vc,rfl⟩:=owns_slice hown)
       | (go_simp;go_at_call 149;refine (HC.out _).mono ?_;rintro e w1 ⟨rfl,rfl⟩))
     all_goals (refine bodyPost_end (results_none rfl _ _ _) rfl ?_;exact HE.out _ _ hown hgr)
end Go.Proofs.YtmklemelgdilkaaGreatDoor
