/- The program's functions of layer 2, walked. -/
import Derived.Test.YtmklemelgdilkaaGreatDoorPureMk
import Derived.Test.YtmklemelgdilkaaGreatDoorU8bMk
import Derived.Test.YtmklemelgdilkaaGreatDoorShelfQMk
import Derived.Test.YtmklemelgdilkaaGreatDoorRefBaseMk
namespace Go.Proofs.YtmklemelgdilkaaGreatDoor
open Go.RowKit

def letterCells (k:IntKind):Array Value:=(letterRanges.flatMap fun p=>[Value.int k p.1,Value.int k p.2]).toArray
def zeros (n:Nat):Array Value:=(List.replicate n (Value.int .i32 0)).toArray
theorem zero61 (w:World):(zeroValue 115).run Tryz.prog w=.ok (.agg (zeros 66)) w:=by kernel_rfl
set_option maxRecDepth 100000 in
theorem class_letters (w:World) :
  Calls Tryz.prog 79 #[] w fun e w'=>e=.returned (.agg (letterCells .i32))∧Below w.heap.size w w':=by
 have hz:=zero61
 go_enter Tryz.func79,Tryz.ntmps79
 go_upto_region 1 with (fail)
 refine wp_region_lit ?_
 refine wpList_run_n 34 (by kernel_rfl) (by kernel_rfl) ?_
 refine wpList_store_row rfl 115 (.tmp 0) (.tmp 34) rfl w.heap.size (letterCells .i32) (by kernel_rfl) (by kernel_rfl) 115 (zeros 66) (heap_alloc_new _ _) (by kernel_rfl) (by kernel_rfl) (by kernel_rfl) ?_
 refine wpList_nil ?_
 generalize hA:(actAfter _ _ _).put _ undef=A
 have hA0:A.tmps.getD 0 undef=.pointer (some ⟨w.heap.size,0,none⟩):=by rw [← hA];kernel_rfl
 have hAd:A.defers=[]:=by rw [← hA];kernel_rfl
 clear hA hz
 obtain ⟨tm,df⟩:=A
 simp only [] at hA0 hAd
 subst hAd
 rename_i hK
 refine hK _ _ (wp_ret ?_)
 refine bodyPost_ret (results_cell_row rfl tm _ w.heap.size 115 (letterCells .i32) (0,0) _ hA0 ?_ Tryz.underlying115 rfl (by kernel_rfl)) rfl ?_
 ·rw [World.setRow_alloc_new];exact heap_alloc_new _ _
 ·exact ⟨rfl,by rw [World.setRow_alloc_new];exact (Below.refl _ _).alloc (Nat.le_refl _) _⟩
theorem letterCells_at:∀ i,i<33→(letterCells .i32)[2*i]?=some (.int .i32 (frm letterRanges i))∧(letterCells .i32)[2*i+1]?=some (.int .i32 (too letterRanges i)):=by
 intro i hi
 have h:∀ i:Fin 33,(letterRanges.flatMap fun p=>[(p.1:Int),(p.2:Int)])[2*i.val]?=some ((frm letterRanges i.val:Nat):Int)∧(letterRanges.flatMap fun p=>[(p.1:Int),(p.2:Int)])[2*i.val+1]?=some ((too letterRanges i.val:Nat):Int):=by decide +kernel
 have e:letterCells .i32=((letterRanges.flatMap fun p=>[(p.1:Int),(p.2:Int)]).map (Value.int .i32)).toArray:=by
  unfold letterCells
  rw [List.map_flatMap];rfl
 have:=h ⟨i,hi⟩
 rw [e]
 simp only [List.getElem?_toArray,List.getElem?_map]
 rw [this.1,this.2]
 exact ⟨rfl,rfl⟩
set_option maxRecDepth 100000 in
set_option maxHeartbeats 1000000 in
theorem class_Letter (r:Int) (w:World) :
  Calls Tryz.prog 61 #[.int .i32 r] w fun e w'=>e=.returned (.bool (letter r))∧Below w.heap.size w w':=by
 have hz:=zero61
 go_enter Tryz.func61,Tryz.ntmps61
 go_wp2_with fail
 refine (class_letters _).mono ?_;rintro e w1 ⟨rfl,hb1⟩
 go_wp2_with (refine wpList_store_row rfl 115 (.tmp 3) (.tmp 7) rfl w1.heap.size (letterCells .i32) rfl rfl 115 (zeros 66) (heap_alloc_new _ _) (by kernel_rfl) (by kernel_rfl) (by kernel_rfl) ?_;rw [World.setRow_alloc_new])
 have hcell:∀ j,(w1.alloc (.cells (letterCells .i32) 115)).cell? ⟨w1.heap.size,j,none⟩=(letterCells .i32)[j]?:=fun j=>World.cell?_alloc_at _ _ _ _ rfl
 have hbW:Below w.heap.size w (w1.alloc (.cells (letterCells .i32) 115)):=hb1.alloc hb1.size _
 generalize w1.alloc (.cells (letterCells .i32) 115)=W at *
 generalize w1.heap.size=B at *
 have HC:=Hd hcell
 have HB:=Hd hbW
 clear hcell hbW hb1 hz
 generalize letterCells .i32=LC
 go_loop [4,5] (fun a b=>∃ lo hi:Nat,a=.int .i64 lo∧b=.int .i64 hi∧lo≤hi∧hi≤33∧(∀ i,i<lo→(too letterRanges i:Int)<r)∧(∀ i,hi≤i→i<33→r<(frm letterRanges i:Int))) (fun a b=>(intOf b-intOf a).toNat)
 case atStart=>exact ⟨0,33,rfl,rfl,by omega,by omega,fun i h=>by omega,fun i h1 h2=>by omega⟩
 case round =>
  obtain ⟨lo,hi,rfl,rfl,hle,h33,hlo,hhi⟩:=hrel
  have HLO:=Hd hlo;have HHI:=Hd hhi
  clear hlo hhi
  by_cases hlt:lo<hi
  ·have hmid:(lo+hi) / 2<33:=by omega
   have hm:=letterCells_at _ hmid
   have hs1:=letters_sorted
   have hsm:=letters_small _ hmid
   have hc0:W.cell? ⟨B,(lo+hi) / 2*2,none⟩=some (.int .i32 (frm letterRanges ((lo+hi) / 2))):=by rw [HC.out,Nat.mul_comm];exact hm.1
   have hc1:W.cell? ⟨B,(lo+hi) / 2*2+1,none⟩=some (.int .i32 (too letterRanges ((lo+hi) / 2))):=by rw [HC.out,Nat.mul_comm];exact hm.2
   have HS:=Hd hs1
   clear hm hs1
   have hml:lo≤(lo+hi) / 2:=by omega
   have hmh:(lo+hi) / 2<hi:=by omega
   generalize hf:frm letterRanges ((lo+hi) / 2)=f at *
   generalize ht:too letterRanges ((lo+hi) / 2)=t at *
   have HF:=Hd hf;have HT:=Hd ht
   clear hf ht
   go_wp2_with fail
   ·have hrf:r<(f:Int):=by assumption
    go_round
    case rel=>exact ⟨lo,(lo+hi) / 2,rfl,by go_num,hml,by omega,HLO.out,fun i h1 h2=>by have:=(HS.out _ hmid i h2 h1).1;have:=HF.out;omega⟩
    case measure=>simp [intOf];omega
   ·have hrt:(t:Int)<r:=by assumption
    go_round
    case rel=>exact ⟨(lo+hi) / 2+1,hi,by go_num,rfl,by omega,h33,fun i h1=>by have:=(HS.out i (by omega) _ hmid (by omega)).2;have:=HT.out;omega,HHI.out⟩
    case measure=>simp [intOf];omega
   ·go_ret
    have h1:(f:Int)≤r:=by omega
    have h2:r≤(t:Int):=by omega
    exact ⟨ret_bool (by unfold letter;exact (inR_at letterRanges r _ hmid (by rw [HF.out];exact h1) (by rw [HT.out];exact h2)).symm),HB.out⟩
  ·go_wp2_with fail
   go_ret
   have hno:inR letterRanges r=false:=inR_none letterRanges r fun i hi'=>by
    by_cases h:i<lo
    ·exact Or.inr (HLO.out i h)
    ·exact Or.inl (HHI.out i (by omega) hi')
   exact ⟨ret_bool (by unfold letter;exact hno.symm),HB.out⟩
end Go.Proofs.YtmklemelgdilkaaGreatDoor
namespace Go.Proofs.YtmklemelgdilkaaGreatDoor
open Go.RowKit

set_option maxRecDepth 100000 in
set_option maxHeartbeats 1000000 in
theorem class_Digit (r:Int) (hr:-2147483648≤r∧r≤2147483647) (w:World) :
  Calls Tryz.prog 62 #[.int .i32 r] w fun e w'=>e=.returned (.bool (digit r))∧w=w':=by
 have i0:∀ w,(Instr.index 117 (.agg #[.int .i32 48,.int .i32 1632,.int .i32 2406,.int .i32 3664,.int .i32 65296]) (.int .i64 0)).run Tryz.prog w=.ok (.int .i32 48) w:=fun _=>by kernel_rfl
 have i1:∀ w,(Instr.index 117 (.agg #[.int .i32 48,.int .i32 1632,.int .i32 2406,.int .i32 3664,.int .i32 65296]) (.int .i64 1)).run Tryz.prog w=.ok (.int .i32 1632) w:=fun _=>by kernel_rfl
 have i2:∀ w,(Instr.index 117 (.agg #[.int .i32 48,.int .i32 1632,.int .i32 2406,.int .i32 3664,.int .i32 65296]) (.int .i64 2)).run Tryz.prog w=.ok (.int .i32 2406) w:=fun _=>by kernel_rfl
 have i3:∀ w,(Instr.index 117 (.agg #[.int .i32 48,.int .i32 1632,.int .i32 2406,.int .i32 3664,.int .i32 65296]) (.int .i64 3)).run Tryz.prog w=.ok (.int .i32 3664) w:=fun _=>by kernel_rfl
 have i4:∀ w,(Instr.index 117 (.agg #[.int .i32 48,.int .i32 1632,.int .i32 2406,.int .i32 3664,.int .i32 65296]) (.int .i64 4)).run Tryz.prog w=.ok (.int .i32 65296) w:=fun _=>by kernel_rfl
 go_enter Tryz.func62,Tryz.ntmps62
 go_wp2_with fail
 go_rounds 7
 all_goals go_ret
 all_goals (refine ⟨ret_bool ?_,rfl⟩;clear i0 i1 i2 i3 i4;rw [Bool.eq_iff_iff];unfold digit inR digitRanges;simp;omega)
theorem class_Base (r:Int) (hr:-2147483648≤r∧r≤2147483647) (w:World) :
  Calls Tryz.prog 150 #[.int .i32 r] w fun e w'=>e=.returned (.int .i64 (base r))∧w=w':=by
 go_enter Tryz.func150,Tryz.ntmps150
 go_wp2_with fail
 all_goals go_ret
 all_goals (refine ⟨ret_int ?_,rfl⟩)
 all_goals (clear hr;unfold base;repeat (first | rw [if_pos (by omega)] | rw [if_neg (by omega)] | rfl))
set_option maxRecDepth 100000 in
set_option maxHeartbeats 4000000 in
theorem class_Word (s:ByteArray) (w:World) :
  Calls Tryz.prog 59 #[.string s] w fun e w'=>e=.returned (.bool (word s))∧w=w':=by
 go_enter Tryz.func59,Tryz.ntmps59
 go_wp2_with fail
 all_goals go_ret
 all_goals (refine ⟨ret_bool ?_,rfl⟩)
 all_goals first | (unfold word words;simp only [List.any_cons,List.any_nil, *,Bool.true_or,Bool.or_true,Bool.or_false];done) | (exfalso;simp_all;done)
end Go.Proofs.YtmklemelgdilkaaGreatDoor
namespace Go.Proofs.YtmklemelgdilkaaGreatDoor
open Go.RowKit

def nats (l:List Nat):List Int:=l.map fun (n:Nat)=>(n:Int)
theorem isEmpty_size (s:ByteArray):s.toList.isEmpty=decide (s.size=0):=by
 rw [ByteArray.toList_eq,Bool.eq_iff_iff,List.isEmpty_iff_length_eq_zero,← size_data];simp
set_option maxRecDepth 100000 in
set_option maxHeartbeats 4000000 in
theorem class_Name (s:ByteArray) (w:World) (hT:Tabs w) :
  Calls Tryz.prog 48 #[.string s] w fun e w'=>e=.returned (.bool (name s))∧Below w.heap.size w w':=by
 have CW:=Hd (fun w=>class_Word s w)
 have CB:=Hd (fun w hT=>runes_Bad s w hT)
 have HN:=Hd (show name s=(!s.toList.isEmpty&&!word s&&decide (bad s<0)&&chk true (nats (chars s))) by unfold name nats;rfl)
 cases he:s.toList.isEmpty
 ·have he2:(s.toList == [])=false:=by
   rw [beq_eq_false_iff_ne];intro e;rw [e] at he;cases he
  cases hw:word s
  ·rw [hw] at CW
   by_cases hb:bad s<0
   ·have hb2:decide (0≤bad s)=false:=by simpa using hb
    have HB:=Hd ((bad_neg s).1 hb)
    have HN2:Hid (name s=chk true (nats (scan s 0).1)):=by
     have:=HN.out
     rw [he,hw,decide_eq_true hb] at this
     rw [this];unfold chars;rfl
    clear HN hw hb
    go_enter Tryz.func48,Tryz.ntmps48
    go_wp2_with fail
    refine (CW.out _).mono ?_;rintro e w1 ⟨rfl,rfl⟩
    go_wp2_with fail
    refine (CB.out _ hT).mono ?_;rintro e w1 ⟨rfl,hb1⟩
    go_wp2_with fail
    have hz1:=hb1.size
    go_loopw [] (fun wr=>∃ pos,wr.heap[w1.heap.size]?=some (.stringIter s pos)∧pos≤s.size∧(scan s pos).2=none∧name s=chk (pos == 0) (nats (scan s pos).1)∧Below w.heap.size w wr) (fun wr=>iterLeft w1.heap.size wr)
    case atStart=>exact ⟨0,World.iter_heap _ _ _,Nat.zero_le _,HB.out,HN2.out,hb1.alloc hb1.size _⟩
    case round =>
     obtain ⟨pos,hk,hpos,hnn,hnm,hb⟩:=hrel
     have HK:=Hd hk
     have HNM:=Hd hnm
     have HNN:=Hd hnn
     have hz:=keeps_lt hk
     clear hnm
     by_cases hp:pos<s.size
     ·have hn:=fun ty=>Lib.run_next_any_at (P:=Tryz.prog) wr w1.heap.size s pos ty hk hp
      have hb2':Below w.heap.size w (wr.iterAt w1.heap.size s (pos+(Utf8.decode s pos).2)):=Lib.below_iterAt hb (by omega) _ _
      have hk2:=Lib.iterAt_heap wr w1.heap.size s pos (pos+(Utf8.decode s pos).2) hk
      generalize hW:wr.iterAt w1.heap.size s (pos+(Utf8.decode s pos).2)=W at *
      rcases rd_cases s pos hp with ⟨h1,h2⟩ | ⟨h1,h2,h3,h4,h5,h6⟩
      ·exact absurd h1 (bad_good hp hnn)
      ·have HR:=Hd (scan_step hp (by omega))
       have hrl:=rd_le s pos
       rw [h6] at hn hk2
       generalize rd s pos=d at *
       obtain ⟨d1,d2⟩:=d
       simp only [] at *
       have hp2:=Hd h3
       have CL:=Hd (fun w=>class_Letter d1 w)
       have CD:=Hd (fun w=>class_Digit d1 (by omega) w)
       have hnx:name s=((letter d1 || (!(pos == 0)&&digit d1))&&chk false (nats (scan s (pos+d2)).1)):=by
        rw [HNM.out,HR.out];rfl
       have HNX:=Hd hnx
       have hq:((pos:Int) == 0)=(pos == 0):=by rw [Bool.eq_iff_iff];simp
       have hp0:(pos+d2 == 0)=false:=by simp;omega
       have HP0:=Hd hp0
       clear hW h4 h5 h6 h3 hk hnn hnx hp0
       cases hl:letter d1
       ·rw [hl] at CL HNX
        cases h0:(pos == 0)
        ·rw [h0] at hq HNX
         cases hd:digit d1
         ·rw [hd] at CD HNX
          clear hl hd h0
          go_wp2_with fail
          refine (CL.out _).mono ?_;rintro e w3 ⟨rfl,hb3⟩
          go_wp2_with fail
          refine (CD.out _).mono ?_;rintro e w4 ⟨rfl,rfl⟩
          go_wp2_with fail
          go_ret
          exact ⟨ret_bool (by rw [HNX.out];rfl),bthen hb2' hb3⟩
         ·rw [hd] at CD HNX
          clear hl hd h0
          go_wp2_with fail
          refine (CL.out _).mono ?_;rintro e w3 ⟨rfl,hb3⟩
          have hk3:=keeps hb3 hk2
          go_wp2_with fail
          refine (CD.out _).mono ?_;rintro e w4 ⟨rfl,rfl⟩
          go_wp2_with fail
          go_roundw
          case rel=>exact ⟨pos+d2,hk3,hp2.out,by rw [← HNN.out,HR.out],by rw [HNX.out,HP0.out];rfl,bthen hb2' hb3⟩
          case measure=>rw [iterLeft_of hk3,iterLeft_of HK.out];have:=hp2.out;omega
        ·rw [h0] at hq HNX
         clear hl h0
         go_wp2_with fail
         refine (CL.out _).mono ?_;rintro e w3 ⟨rfl,hb3⟩
         go_wp2_with fail
         go_ret
         exact ⟨ret_bool (by rw [HNX.out];rfl),bthen hb2' hb3⟩
       ·rw [hl] at CL HNX
        clear hl hq
        go_wp2_with fail
        refine (CL.out _).mono ?_;rintro e w3 ⟨rfl,hb3⟩
        have hk3:=keeps hb3 hk2
        go_wp2_with fail
        go_roundw
        case rel=>exact ⟨pos+d2,hk3,hp2.out,by rw [← HNN.out,HR.out],by rw [HNX.out,HP0.out];simp,bthen hb2' hb3⟩
        case measure=>rw [iterLeft_of hk3,iterLeft_of HK.out];have:=hp2.out;omega
     ·have hn:=fun ty=>Lib.run_next_end_at (P:=Tryz.prog) wr w1.heap.size s pos ty hk hp
      have HE:=Hd (show name s=true by rw [HNM.out,scan_end (by omega)];rfl)
      clear hk hnn
      go_wp2_with fail
      go_ret
      exact ⟨ret_bool HE.out.symm,hb⟩
   ·have hb2:decide (0≤bad s)=true:=by simpa using hb
    have HN2:Hid (name s=false):=by
     have:=HN.out
     rw [he,hw,decide_eq_false hb] at this
     rw [this];rfl
    clear HN hw hb
    go_enter Tryz.func48,Tryz.ntmps48
    go_wp2_with fail
    refine (CW.out _).mono ?_;rintro e w1 ⟨rfl,rfl⟩
    go_wp2_with fail
    refine (CB.out _ hT).mono ?_;rintro e w1 ⟨rfl,hb1⟩
    go_wp2_with fail
    go_ret
    exact ⟨ret_bool HN2.out.symm,hb1⟩
  ·rw [hw] at CW
   have HN2:Hid (name s=false):=by
    have:=HN.out
    rw [he,hw] at this
    rw [this];rfl
   clear HN hw
   go_enter Tryz.func48,Tryz.ntmps48
   go_wp2_with fail
   refine (CW.out _).mono ?_;rintro e w1 ⟨rfl,rfl⟩
   go_wp2_with fail
   go_ret
   exact ⟨ret_bool HN2.out.symm,Below.refl _ _⟩
 ·have he2:(s.toList == [])=true:=by
   rw [List.isEmpty_iff.1 he];rfl
  have HN2:Hid (name s=false):=by
   have:=HN.out
   rw [he] at this
   rw [this];rfl
  clear HN
  go_enter Tryz.func48,Tryz.ntmps48
  go_wp2_with fail
  go_ret
  exact ⟨ret_bool HN2.out.symm,Below.refl _ _⟩
end Go.Proofs.YtmklemelgdilkaaGreatDoor
namespace Go.Proofs.YtmklemelgdilkaaGreatDoor
open Go.RowKit

def digitCells (k:IntKind):Array Value:=(digitRanges.flatMap fun p=>[Value.int k p.1,Value.int k p.2]).toArray
def wordVals:Array Value:=(words.map fun l=>Value.string ⟨l.toArray⟩).toArray
theorem row_lit (w:World) (C:Array Value) (t:TypeId) (n sz:Nat) (h:C.size=n*sz):Row (w.alloc (.cells C t)) (.slice (some ⟨w.heap.size,0,none⟩) n n) n sz C.toList :=
 ⟨by simpa using h,some ⟨w.heap.size,0,none⟩,n,rfl,Nat.le_refl _,by simp,fun _=>⟨w.heap.size,0,rfl,by simp,fun i _=>by rw [Nat.zero_add,World.cell?_alloc_at _ _ _ _ rfl];simp⟩⟩
set_option maxRecDepth 100000 in
theorem ref_Letters (w:World) :
  Calls Tryz.prog 88 #[] w fun e w'=>e=.returned (.slice (some ⟨w.heap.size,0,none⟩) 33 33)∧w'=w.alloc (.cells (letterCells .i64) 139):=by
 go_enter Tryz.func88,Tryz.ntmps88
 go_upto_region 1 with (fail)
 refine wp_region_lit ?_
 refine wpList_run_w 35 (w.alloc (.cells (letterCells .i64) 139)) (by kernel_rfl) (by kernel_rfl) ?_
 refine wpList_nil ?_
 generalize hA:actOf _ _ _ _=A
 have hA0:A.tmps.getD 0 undef=.slice (some ⟨w.heap.size,0,none⟩) 33 33:=by rw [← hA];kernel_rfl
 have hAd:A.defers=[]:=by rw [← hA];kernel_rfl
 clear hA
 obtain ⟨tm,df⟩:=A
 simp only [] at hA0 hAd
 subst hAd
 rename_i hK
 refine hK _ _ (wp_ret ?_)
 refine bodyPost_ret (results_tmp rfl _ _ _) rfl ?_
 exact ⟨by rw [hA0],rfl⟩
set_option maxRecDepth 100000 in
theorem ref_Digits (w:World) :
  Calls Tryz.prog 89 #[] w fun e w'=>e=.returned (.slice (some ⟨w.heap.size,0,none⟩) 5 5)∧w'=w.alloc (.cells (digitCells .i64) 139):=by
 go_enter Tryz.func89,Tryz.ntmps89
 go_upto_region 1 with (fail)
 refine wp_region_lit ?_
 refine wpList_run_w 7 (w.alloc (.cells (digitCells .i64) 139)) (by kernel_rfl) (by kernel_rfl) ?_
 refine wpList_nil ?_
 generalize hA:actOf _ _ _ _=A
 have hA0:A.tmps.getD 0 undef=.slice (some ⟨w.heap.size,0,none⟩) 5 5:=by rw [← hA];kernel_rfl
 have hAd:A.defers=[]:=by rw [← hA];kernel_rfl
 clear hA
 obtain ⟨tm,df⟩:=A
 simp only [] at hA0 hAd
 subst hAd
 rename_i hK
 refine hK _ _ (wp_ret ?_)
 refine bodyPost_ret (results_tmp rfl _ _ _) rfl ?_
 exact ⟨by rw [hA0],rfl⟩
set_option maxRecDepth 100000 in
theorem ref_Words (w:World) :
  Calls Tryz.prog 86 #[] w fun e w'=>e=.returned (.slice (some ⟨w.heap.size,0,none⟩) 25 25)∧w'=w.alloc (.cells wordVals 9):=by
 go_enter Tryz.func86,Tryz.ntmps86
 go_upto_region 1 with (fail)
 refine wp_region_lit ?_
 refine wpList_run_w 2 (w.alloc (.cells wordVals 9)) (by kernel_rfl) (by kernel_rfl) ?_
 refine wpList_nil ?_
 generalize hA:actOf _ _ _ _=A
 have hA0:A.tmps.getD 0 undef=.slice (some ⟨w.heap.size,0,none⟩) 25 25:=by rw [← hA];kernel_rfl
 have hAd:A.defers=[]:=by rw [← hA];kernel_rfl
 clear hA
 obtain ⟨tm,df⟩:=A
 simp only [] at hA0 hAd
 subst hAd
 rename_i hK
 refine hK _ _ (wp_ret ?_)
 refine bodyPost_ret (results_tmp rfl _ _ _) rfl ?_
 exact ⟨by rw [hA0],rfl⟩

def rangeVals (l:List (Nat×Nat)):List Value:=l.flatMap fun p=>[Value.int .i64 p.1,Value.int .i64 p.2]
theorem rangeVals_at (l:List (Nat×Nat)) (i:Nat) (hi:i<l.length):(rangeVals l)[i*2]?=some (.int .i64 (frm l i))∧(rangeVals l)[i*2+1]?=some (.int .i64 (too l i)):=by
 induction l generalizing i with
 | nil=>simp at hi
 | cons p l ih =>
  cases i with
  | zero=>exact ⟨rfl,rfl⟩
  | succ i =>
   have:=ih i (by simpa using hi)
   have e1:(i+1)*2=i*2+2:=by omega
   rw [e1]
   exact this
set_option maxRecDepth 100000 in
set_option maxHeartbeats 1000000 in
theorem ref_in (r:Int) (v:Value) (l:List (Nat×Nat)) (w:World) (hv:Row w v l.length 2 (rangeVals l)) (hl:l.length≤1000000) (hb0:∀ i,i<l.length→frm l i≤1114112∧too l i≤1114112) :
  Calls Tryz.prog 87 #[.int .i64 r,v] w fun e w'=>e=.returned (.bool (inR l r))∧w=w':=by
 obtain ⟨_,a,cap,rfl,hc,_,hcell⟩:=hv
 have HC:=Hd hcell
 have HB:=Hd hb0
 clear hcell hb0
 go_enter Tryz.func87,Tryz.ntmps87
 go_wp2_with fail
 go_loop [5] (fun i=>∃ k:Nat,i=.int .i64 k∧k≤l.length∧(∀ j,j<k→r<(frm l j:Int)∨(too l j:Int)<r)) (fun i=>l.length-(intOf i).toNat)
 case atStart=>exact ⟨0,rfl,Nat.zero_le _,fun j h=>by omega⟩
 case round =>
  obtain ⟨k,rfl,hk,hno⟩:=hrel
  have HN:=Hd hno
  clear hno
  by_cases hlt:k<l.length
  ·obtain ⟨b,off,rfl,hbl,hcl⟩:=HC.out (by omega)
   have hv:=rangeVals_at l k hlt
   have h0:w.cell? ⟨b,off+k*2,none⟩=some (.int .i64 (frm l k)):=by rw [hcl _ (by omega)];exact hv.1
   have h1:w.cell? ⟨b,off+k*2+1,none⟩=some (.int .i64 (too l k)):=by rw [Nat.add_assoc,hcl _ (by omega)];exact hv.2
   have hyes:=inR_at l r k hlt
   have hkl:(k:Int)<l.length:=by omega
   have hbk:=HB.out k hlt
   clear hcl hv
   generalize hf:frm l k=f at *
   generalize ht:too l k=t at *
   have HF:=Hd hf;have HT:=Hd ht
   have HY:=Hd hyes
   clear hf ht hyes
   by_cases g1:(f:Int)≤r
   ·by_cases g2:r≤(t:Int)
    ·go_wp2_with fail
     go_ret
     exact ⟨ret_bool (HY.out g1 g2).symm,rfl⟩
    ·go_wp2_with fail
     go_round
     case rel=>exact ⟨k+1,by go_num,by omega,fun j hj=>by
      by_cases e:j=k
      ·subst e;have:=HT.out;omega
      ·exact HN.out j (by omega)⟩
     case measure=>simp [intOf];omega
   ·go_wp2_with fail
    go_round
    case rel=>exact ⟨k+1,by go_num,by omega,fun j hj=>by
     by_cases e:j=k
     ·subst e;have:=HF.out;omega
     ·exact HN.out j (by omega)⟩
    case measure=>simp [intOf];omega
  ·have hkl:(l.length:Int)≤k:=by omega
   have HX:=Hd (inR_none l r fun i hi=>HN.out i (by omega))
   go_wp2_with fail
   go_ret
   exact ⟨ret_bool HX.out.symm,rfl⟩
theorem letterCells_vals:(letterCells .i64).toList=rangeVals letterRanges:=rfl
theorem digitCells_vals:(digitCells .i64).toList=rangeVals digitRanges:=rfl
theorem digits_small:∀ i,i<5→frm digitRanges i≤1114112∧too digitRanges i≤1114112:=by decide +kernel
theorem letters_small':∀ i,i<33→frm letterRanges i≤1114112∧too letterRanges i≤1114112:=by decide +kernel
theorem ref_Letter (r:Int) (w:World) :
  Calls Tryz.prog 70 #[.int .i64 r] w fun e w'=>e=.returned (.bool (letter r))∧Below w.heap.size w w':=by
 have hR:=row_lit w (letterCells .i64) 139 33 2 (by decide +kernel)
 rw [letterCells_vals] at hR
 have HL:=Hd (show letter r=inR letterRanges r by unfold letter;rfl)
 have HI:=Hd (ref_in r _ letterRanges _ hR (by decide) letters_small')
 have HC:=Hd (ref_Letters w)
 have HB:=Hd ((Below.refl _ w).alloc (Nat.le_refl _) (.cells (letterCells .i64) 139))
 clear hR
 generalize inR letterRanges r=x at *
 generalize letterCells .i64=C at *
 go_enter Tryz.func70,Tryz.ntmps70
 go_wp2_with fail
 refine HC.out.mono ?_;rintro e w1 ⟨rfl,rfl⟩
 go_wp2_with fail
 refine HI.out.mono ?_;rintro e w1 ⟨rfl,rfl⟩
 go_wp2_with fail
 go_ret
 exact ⟨ret_bool HL.out.symm,HB.out⟩
theorem ref_Digit (r:Int) (w:World) :
  Calls Tryz.prog 71 #[.int .i64 r] w fun e w'=>e=.returned (.bool (digit r))∧Below w.heap.size w w':=by
 have hR:=row_lit w (digitCells .i64) 139 5 2 (by decide +kernel)
 rw [digitCells_vals] at hR
 have HL:=Hd (show digit r=inR digitRanges r by unfold digit;rfl)
 have HI:=Hd (ref_in r _ digitRanges _ hR (by decide) digits_small)
 have HC:=Hd (ref_Digits w)
 have HB:=Hd ((Below.refl _ w).alloc (Nat.le_refl _) (.cells (digitCells .i64) 139))
 clear hR
 generalize inR digitRanges r=x at *
 generalize digitCells .i64=C at *
 go_enter Tryz.func71,Tryz.ntmps71
 go_wp2_with fail
 refine HC.out.mono ?_;rintro e w1 ⟨rfl,rfl⟩
 go_wp2_with fail
 refine HI.out.mono ?_;rintro e w1 ⟨rfl,rfl⟩
 go_wp2_with fail
 go_ret
 exact ⟨ret_bool HL.out.symm,HB.out⟩
theorem wordVals_at (i:Nat) (hi:i<25):wordVals[i]?=some (.string ⟨(words.getD i []).toArray⟩):=by
 have h:i<words.length:=hi
 unfold wordVals
 simp only [List.getElem?_toArray,List.getElem?_map,List.getElem?_eq_getElem h,Option.map_some,List.getD_eq_getElem?_getD,Option.getD_some]
theorem word_yes (s:ByteArray) (i:Nat) (hi:i<25) (h:(words.getD i [] == s.toList)=true):word s=true:=by
 have h2:i<words.length:=hi
 unfold word
 rw [List.any_eq_true]
 refine ⟨words[i],List.getElem_mem h2,?_⟩
 rw [List.getD_eq_getElem?_getD,List.getElem?_eq_getElem h2,Option.getD_some,beq_iff_eq] at h
 rw [beq_iff_eq,h]
theorem word_no (s:ByteArray) (h:∀ i,i<25→(words.getD i [] == s.toList)=false):word s=false:=by
 unfold word
 rw [List.any_eq_false]
 intro x hx
 obtain ⟨i,hi,rfl⟩:=List.getElem_of_mem hx
 have:=h i hi
 rw [List.getD_eq_getElem?_getD,List.getElem?_eq_getElem hi,Option.getD_some,beq_eq_false_iff_ne] at this
 simp only [beq_iff_eq]
 exact fun e=>this e.symm
set_option maxRecDepth 100000 in
set_option maxHeartbeats 1000000 in
theorem ref_Word (s:ByteArray) (w:World) :
  Calls Tryz.prog 69 #[.string s] w fun e w'=>e=.returned (.bool (word s))∧Below w.heap.size w w':=by
 have HC:=Hd (ref_Words w)
 have HW:=Hd wordVals_at
 have HB:=Hd ((Below.refl _ w).alloc (Nat.le_refl _) (.cells wordVals 9))
 have hcell:∀ j,(w.alloc (.cells wordVals 9)).cell? ⟨w.heap.size,j,none⟩=wordVals[j]?:=fun j=>World.cell?_alloc_at _ _ _ _ rfl
 have HCL:=Hd hcell
 clear hcell
 generalize wordVals=C at *
 go_enter Tryz.func69,Tryz.ntmps69
 go_wp2_with fail
 refine HC.out.mono ?_;rintro e w1 ⟨rfl,rfl⟩
 generalize w.alloc (.cells C 9)=W at *
 go_wp2_with fail
 go_loop [4] (fun i=>∃ k:Nat,i=.int .i64 k∧k≤25∧(∀ j,j<k→(words.getD j [] == s.toList)=false)) (fun i=>25-(intOf i).toNat)
 case atStart=>exact ⟨0,rfl,Nat.zero_le _,fun j h=>by omega⟩
 case round =>
  obtain ⟨k,rfl,hk,hno⟩:=hrel
  have HN:=Hd hno
  clear hno
  by_cases hlt:k<25
  ·have h0:W.cell? ⟨w.heap.size,k,none⟩=some (.string ⟨(words.getD k []).toArray⟩):=by rw [HCL.out,HW.out k hlt]
   have hyes:=word_yes s k hlt
   have hnn:∀ _:(words.getD k [] == s.toList)=false,∀ j,j<k+1→(words.getD j [] == s.toList)=false:=fun hx j hj=>by
    by_cases e:j=k
    ·subst e;exact hx
    ·exact HN.out j (by omega)
   generalize words.getD k []=x at *
   have HY:=Hd hyes;have HNN:=Hd hnn
   clear hyes hnn
   go_wp2_with fail
   ·have hx:(x == s.toList)=true:=by assumption
    go_ret
    exact ⟨ret_bool (HY.out hx).symm,HB.out⟩
   ·have hx:(x == s.toList)=false:=by assumption
    go_round
    case rel=>exact ⟨k+1,by go_num,by omega,HNN.out hx⟩
    case measure=>simp [intOf];omega
  ·have HX:=Hd (word_no s fun i hi=>HN.out i (by omega))
   go_wp2_with fail
   go_ret
   exact ⟨ret_bool HX.out.symm,HB.out⟩
end Go.Proofs.YtmklemelgdilkaaGreatDoor
namespace Go.Proofs.YtmklemelgdilkaaGreatDoor
open Go.RowKit

def ints (l:List Nat):List Int:=l.map fun (x:Nat)=>(x:Int)
theorem longVals_ints (l:List Nat):longVals l=(ints l).map (Value.int .i64):=by simp [longVals,ints]
theorem ints_length (l:List Nat):(ints l).length=l.length:=by simp [ints]
@[irreducible] def charsOk (s:ByteArray):List Int:=if bad s<0 then ints (chars s) else []
theorem charsOk_good {s:ByteArray} (h:bad s<0):charsOk s=ints (chars s):=by unfold charsOk;rw [if_pos h]
theorem charsOk_bad {s:ByteArray} (h:0≤bad s):charsOk s=[]:=by unfold charsOk;rw [if_neg (by omega)]
theorem charsOk_length (s:ByteArray):(charsOk s).length≤s.size:=by
 unfold charsOk;split
 ·rw [ints_length];exact chars_length s
 ·simp
theorem ref_Alls (s:ByteArray) (w:World) (hs:s.size≤1099511627775) :
  Calls Tryz.prog 68 #[.string s] w fun e w'=>∃ v,e=.returned (.tuple #[v,.bool (decide (bad s<0))])∧Below w.heap.size w w'∧w'.ownsRow w.heap.size 2 1 v (charsOk s).length ((charsOk s).map (Value.int .i64)):=by
 by_cases h:bad s<0
 ·refine (ref_All s w hs h).mono ?_
  rintro e w' ⟨v,rfl,hb,hown⟩
  exact ⟨v,by simp [h],hb,by rw [charsOk_good h,ints_length,← longVals_ints];exact hown⟩
 ·refine (ref_All_bad s w hs (by omega)).mono ?_
  rintro e w' ⟨rfl,hb⟩
  exact ⟨.slice none 0 0,by simp [h],hb,by rw [charsOk_bad (by omega)];exact World.ownsRow_nil _ _ _ _⟩
end Go.Proofs.YtmklemelgdilkaaGreatDoor
namespace Go.Proofs.YtmklemelgdilkaaGreatDoor
open Go.RowKit

theorem chk_false (l:List Int):chk false l=l.all fun x=>letter x || digit x:=by
 induction l with
 | nil=>rfl
 | cons x l ih=>simp [chk,ih]
def okAll (l:List Int):Bool:=l.all fun x=>letter x || digit x
theorem okAll_no (l:List Int) (i:Nat) (hi:i<l.length) (h1:letter l[i]=false) (h2:digit l[i]=false):okAll l=false:=by
 unfold okAll;rw [List.all_eq_false];exact ⟨l[i],List.getElem_mem hi,by simp [h1,h2]⟩
theorem okAll_yes (l:List Int) (h:∀ i (hi:i<l.length),(letter l[i] || digit l[i])=true):okAll l=true:=by
 unfold okAll;rw [List.all_eq_true]
 intro x hx
 obtain ⟨i,hi,rfl⟩:=List.getElem_of_mem hx
 exact h i hi
theorem name_def (s:ByteArray):name s=(!s.toList.isEmpty&&!word s&&decide (bad s<0)&&chk true (nats (chars s))):=by unfold name nats;rfl
theorem name_bad {s:ByteArray} (h:¬ bad s<0):name s=false:=by rw [name_def,decide_eq_false h];simp
theorem name_word {s:ByteArray} (h:word s=true):name s=false:=by rw [name_def,h];simp
theorem chars_empty {s:ByteArray} (h:bad s<0):chars s=[]↔s.toList.isEmpty=true:=by
 rw [isEmpty_size]
 have hn:=(bad_neg s).1 h
 unfold chars
 constructor
 ·intro e
  by_cases hz:0<s.size
  ·have h0:(rd s 0).2≠0:=by
    rcases rd_cases s 0 hz with ⟨h1,_⟩ | ⟨h1,_⟩
    ·exact absurd h1 (bad_good hz hn)
    ·exact Nat.ne_of_gt h1
   rw [scan_step hz h0] at e
   cases e
  ·exact decide_eq_true (by omega)
 ·intro e
  have:s.size=0:=by simpa using e
  rw [scan_end (by omega)]
theorem name_nil {s:ByteArray} (hb:bad s<0) (h:charsOk s=[]):name s=false:=by
 rw [charsOk_good hb] at h
 have:chars s=[]:=by unfold ints at h;simpa using h
 rw [name_def,(chars_empty hb).1 this];simp
theorem name_cons {s:ByteArray} (hb:bad s<0) (hw:word s=false) (hn:0<(charsOk s).length):name s=(letter ((charsOk s)[0]'hn)&&okAll (charsOk s)):=by
 have e:=charsOk_good hb
 have hne:s.toList.isEmpty=false:=by
  cases h:s.toList.isEmpty
  ·rfl
  ·have:=(chars_empty hb).2 h
   rw [e,this] at hn;simp [ints] at hn
 have e2:nats (chars s)=charsOk s:=by rw [e];rfl
 rw [name_def,hne,hw,decide_eq_true hb,e2]
 generalize charsOk s=l at *
 cases l with
 | nil=>simp at hn
 | cons x l =>
  simp only [chk,chk_false,okAll,List.all_cons,List.getElem_cons_zero]
  cases letter x <;> simp
set_option maxRecDepth 100000 in
set_option maxHeartbeats 4000000 in
theorem ref_Name (s:ByteArray) (w:World) (hs:s.size≤1099511627775) :
  Calls Tryz.prog 52 #[.string s] w fun e w'=>e=.returned (.bool (name s))∧Below w.heap.size w w':=by
 have CA:=Hd (fun w=>ref_Alls s w hs)
 have CW:=Hd (fun w=>ref_Word s w)
 by_cases hb:bad s<0
 ·have hcl:=charsOk_length s
  have H0:=Hd (@name_nil s hb)
  have H1:=Hd (@name_word s)
  have H2:=Hd (@name_cons s hb)
  rw [decide_eq_true hb] at CA
  generalize charsOk s=l at *
  clear hb
  go_enter Tryz.func52,Tryz.ntmps52
  go_wp2_with fail
  refine (CA.out _).mono ?_;rintro e w1 ⟨v,rfl,hb1,hown⟩
  have hr:=RowInts.of_owns hown
  obtain ⟨a,cap,rfl,hc,hcell⟩:=hr.open'
  have HC:=Hd hcell
  clear hcell hown hr
  by_cases hl:l=[]
  ·subst hl
   go_wp2_with fail
   go_ret
   exact ⟨ret_bool (H0.out (by simp)).symm,hb1⟩
  ·have hpos:0<l.length:=List.length_pos_iff.2 hl
   have hp1:((l.length:Int) == 0)=false:=by simp;omega
   have HL:=Hd hl
   clear hl
   cases hw:word s
   ·rw [hw] at CW
    have HN:=Hd (H2.out hw hpos)
    clear hw H0 H1 H2
    go_wp2_with fail
    refine (CW.out _).mono ?_;rintro e w2 ⟨rfl,hb2⟩
    have hb12:=bthen hb1 hb2
    obtain ⟨b,off,rfl,hbl,hcl'⟩:=HC.out hpos
    have h0:=(hb2.cell (p:=⟨b,off+0,none⟩) hbl).trans (hcl' 0 hpos)
    rw [Nat.add_zero] at h0
    have HCL:=Hd hcl'
    have C0:=Hd (fun w=>ref_Letter l[0] w)
    have hpi:(0:Int)<l.length:=by omega
    clear hcl'
    generalize h00:l[0]=x0 at *
    have H00:=Hd h00
    clear h00
    cases hl0:letter x0
    ·rw [hl0] at C0 HN
     clear hl0
     go_wp2_with fail
     refine (C0.out _).mono ?_;rintro e w3 ⟨rfl,hb3⟩
     go_wp2_with fail
     go_ret
     exact ⟨ret_bool (by rw [HN.out];rfl),bthen hb12 hb3⟩
    ·rw [hl0] at C0 HN
     clear hl0
     go_wp2_with fail
     refine (C0.out _).mono ?_;rintro e w3 ⟨rfl,hb3⟩
     have hb13:=bthen hb12 hb3
     have hb23:=bthen hb2 hb3
     clear h0
     go_wp2_with fail
     go_loopw [5] (fun i wr=>∃ k:Nat,i=.int .i64 k∧k≤l.length∧(∀ j (hj:j<l.length),j<k→(letter l[j] || digit l[j])=true)∧Below w1.heap.size w1 wr) (fun i _=>l.length-(intOf i).toNat)
     case atStart=>exact ⟨0,rfl,Nat.zero_le _,fun j _ h=>by omega,hb23⟩
     case round =>
      obtain ⟨k,rfl,hk,hyes,hbr⟩:=hrel
      have HY:=Hd hyes
      clear hyes
      have hb1r:=bthen hb1 hbr
      by_cases hlt:k<l.length
      ·have h1:=(hbr.cell (p:=⟨b,off+k,none⟩) hbl).trans (HCL.out k hlt)
       have CL:=Hd (fun w=>ref_Letter l[k] w)
       have CD:=Hd (fun w=>ref_Digit l[k] w)
       have hnx:(letter l[k] || digit l[k])=true→∀ j (hj:j<l.length),j<k+1→(letter l[j] || digit l[j])=true:=fun hx j hj hjk=>by
        by_cases e:j=k
        ·subst e;exact hx
        ·exact HY.out j hj (by omega)
       have hno:=okAll_no l k hlt
       have HNX:=Hd hnx;have HNO:=Hd hno
       have hkl:(k:Int)<l.length:=by omega
       clear hnx hno
       generalize l[k]=x at *
       cases hlx:letter x
       ·rw [hlx] at CL HNX HNO
        cases hdx:digit x
        ·rw [hdx] at CD HNX HNO
         clear hlx hdx
         go_wp2_with fail
         refine (CL.out _).mono ?_;rintro e w4 ⟨rfl,hb4⟩
         have h2:=(hb4.cell (p:=⟨b,off+k,none⟩) (Nat.lt_of_lt_of_le hbl hbr.size)).trans h1
         clear h1
         go_wp2_with fail
         refine (CD.out _).mono ?_;rintro e w5 ⟨rfl,hb5⟩
         go_wp2_with fail
         go_ret
         exact ⟨ret_bool (by rw [HN.out,HNO.out (by simp) (by simp)];rfl),bthen (bthen hb1r hb4) hb5⟩
        ·rw [hdx] at CD HNX
         clear hlx hdx
         go_wp2_with fail
         refine (CL.out _).mono ?_;rintro e w4 ⟨rfl,hb4⟩
         have h2:=(hb4.cell (p:=⟨b,off+k,none⟩) (Nat.lt_of_lt_of_le hbl hbr.size)).trans h1
         clear h1
         go_wp2_with fail
         refine (CD.out _).mono ?_;rintro e w5 ⟨rfl,hb5⟩
         go_wp2_with fail
         go_roundw
         case rel=>exact ⟨k+1,by go_num,by omega,HNX.out (by simp),bthen (bthen hbr hb4) hb5⟩
         case measure=>simp [intOf];omega
       ·rw [hlx] at CL HNX
        clear hlx
        go_wp2_with fail
        refine (CL.out _).mono ?_;rintro e w4 ⟨rfl,hb4⟩
        go_wp2_with fail
        go_roundw
        case rel=>exact ⟨k+1,by go_num,by omega,HNX.out (by simp),bthen hbr hb4⟩
        case measure=>simp [intOf];omega
      ·have hkl:(l.length:Int)≤k:=by omega
       have HX:=Hd (okAll_yes l fun i hi=>HY.out i hi (by omega))
       go_wp2_with fail
       go_ret
       exact ⟨ret_bool (by rw [HN.out,HX.out];rfl),hb1r⟩
   ·rw [hw] at CW
    have HN:=Hd (H1.out hw)
    clear hw H0 H1 H2
    go_wp2_with fail
    refine (CW.out _).mono ?_;rintro e w2 ⟨rfl,hb2⟩
    go_wp2_with fail
    go_ret
    exact ⟨ret_bool HN.out.symm,bthen hb1 hb2⟩
 ·have HN:=Hd (name_bad hb)
  rw [decide_eq_false hb] at CA
  clear hb
  go_enter Tryz.func52,Tryz.ntmps52
  go_wp2_with fail
  refine (CA.out _).mono ?_;rintro e w1 ⟨v,rfl,hb1,hown⟩
  go_wp2_with fail
  go_ret
  exact ⟨ret_bool HN.out.symm,hb1⟩
end Go.Proofs.YtmklemelgdilkaaGreatDoor
