/- The program's functions of layer 2, walked. -/
import Derived.Test.YtfalelkfhandfaaGreatDoorPureMs
import Derived.Test.YtfalelkfhandfaaGreatDoorU8bMs
import Derived.Test.YtfalelkfhandfaaGreatDoorShelfQMs
import Derived.Test.YtfalelkfhandfaaGreatDoorRefBaseMs
namespace Go.Proofs.YtfalelkfhandfaaGreatDoor
set_option maxRecDepth 100000
set_option maxHeartbeats 32000000
open Go.RowKit

def yS (k:IntKind):Array Value:=(zM.flatMap fun p=>[Value.int k p.1,Value.int k p.2]).toArray
def zeros (n:Nat):Array Value:=(List.replicate n (Value.int .i32 0)).toArray
theorem zero61 (w:World):(zeroValue 157).run Tryz.prog w=.ok (.agg (zeros 66)) w:=by kernel_rfl
theorem zIv (w:World) :
  Calls Tryz.prog 101 #[] w fun e w'=>e=.returned (.agg (yS .i32))∧Below w.heap.size w w':=by
 have hz:=zero61
 go_enter Tryz.func101,Tryz.ntmps101
 go_upto_region 1 with (fail)
 refine wp_region_lit ?_
 refine zLt 34 (by kernel_rfl) (by kernel_rfl) ?_
 refine wpList_store_row rfl 157 (.tmp 0) (.tmp 34) rfl w.heap.size (yS .i32) (by kernel_rfl) (by kernel_rfl) 157 (zeros 66) (heap_alloc_new _ _) (by kernel_rfl) (by kernel_rfl) (by kernel_rfl) ?_
 refine wpList_nil ?_
 generalize hA:(actAfter _ _ _).put _ undef=A
 have hA0:A.tmps.getD 0 undef=.pointer (some ⟨w.heap.size,0,none⟩):=by rw [← hA];kernel_rfl
 have hAd:A.defers=[]:=by rw [← hA];kernel_rfl
 clear hA hz
 obtain ⟨tm,df⟩:=A
 simp only [] at hA0 hAd
 subst hAd
 rename_i hK
 refine hK _ _ (wp_ret ?_)
 refine bodyPost_ret (results_cell_row rfl tm _ w.heap.size 157 (yS .i32) (0,0) _ hA0 ?_ Tryz.underlying157 rfl (by kernel_rfl)) rfl ?_
 ·rw [World.setRow_alloc_new];exact heap_alloc_new _ _
 ·exact ⟨rfl,by rw [World.setRow_alloc_new];exact (Below.refl _ _).alloc (Nat.le_refl _) _⟩
theorem zGm:∀ i,i<33→(yS .i32)[2*i]?=some (.int .i32 (frm zM i))∧(yS .i32)[2*i+1]?=some (.int .i32 (too zM i)):=by
 intro i hi
 have h:∀ i:Fin 33,(zM.flatMap fun p=>[(p.1:Int),(p.2:Int)])[2*i.val]?=some ((frm zM i.val:Nat):Int)∧(zM.flatMap fun p=>[(p.1:Int),(p.2:Int)])[2*i.val+1]?=some ((too zM i.val:Nat):Int):=by decide +kernel
 have e:yS .i32=((zM.flatMap fun p=>[(p.1:Int),(p.2:Int)]).map (Value.int .i32)).toArray:=by
  unfold yS
  rw [List.map_flatMap];rfl
 have:=h ⟨i,hi⟩
 rw [e]
 simp only [List.getElem?_toArray,List.getElem?_map]
 rw [this.1,this.2]
 exact ⟨rfl,rfl⟩
theorem zLc (r:Int) (w:World) :
  Calls Tryz.prog 80 #[.int .i32 r] w fun e w'=>e=.returned (.bool (letter r))∧Below w.heap.size w w':=by
 have hz:=zero61
 go_enter Tryz.func80,Tryz.ntmps80
 go_wp2_with fail
 refine (zIv _).mono ?_;rintro e w1 ⟨rfl,hb1⟩
 go_wp2_with (refine wpList_store_row rfl 157 (.tmp 3) (.tmp 7) rfl w1.heap.size (yS .i32) rfl rfl 157 (zeros 66) (heap_alloc_new _ _) (by kernel_rfl) (by kernel_rfl) (by kernel_rfl) ?_;rw [World.setRow_alloc_new])
 have hcell:∀ j,(w1.alloc (.cells (yS .i32) 157)).cell? ⟨w1.heap.size,j,none⟩=(yS .i32)[j]?:=fun j=>World.cell?_alloc_at _ _ _ _ rfl
 have hbW:Below w.heap.size w (w1.alloc (.cells (yS .i32) 157)):=hb1.alloc hb1.size _
 generalize w1.alloc (.cells (yS .i32) 157)=W at *
 generalize w1.heap.size=B at *
 have HC:=Hd hcell
 have HB:=Hd hbW
 clear hcell hbW hb1 hz
 generalize yS .i32=LC
 go_loop [4,5] (fun a b=>∃ lo hi:Nat,a=.int .i64 lo∧b=.int .i64 hi∧lo≤hi∧hi≤33∧(∀ i,i<lo→(too zM i:Int)<r)∧(∀ i,hi≤i→i<33→r<(frm zM i:Int))) (fun a b=>(intOf b-intOf a).toNat)
 case atStart=>exact ⟨0,33,rfl,rfl,by omega,by omega,fun i h=>by omega,fun i h1 h2=>by omega⟩
 case round =>
  obtain ⟨lo,hi,rfl,rfl,hle,h33,hlo,hhi⟩:=hrel
  have HLO:=Hd hlo;have HHI:=Hd hhi
  clear hlo hhi
  by_cases hlt:lo<hi
  ·have hmid:(lo+hi) / 2<33:=by omega
   have hm:=zGm _ hmid
   have hs1:=zGo
   have hsm:=zIw _ hmid
   have hc0:W.cell? ⟨B,(lo+hi) / 2*2,none⟩=some (.int .i32 (frm zM ((lo+hi) / 2))):=by rw [HC.out,Nat.mul_comm];exact hm.1
   have hc1:W.cell? ⟨B,(lo+hi) / 2*2+1,none⟩=some (.int .i32 (too zM ((lo+hi) / 2))):=by rw [HC.out,Nat.mul_comm];exact hm.2
   have HS:=Hd hs1
   clear hm hs1
   have hml:lo≤(lo+hi) / 2:=by omega
   have hmh:(lo+hi) / 2<hi:=by omega
   generalize hf:frm zM ((lo+hi) / 2)=f at *
   generalize ht:too zM ((lo+hi) / 2)=t at *
   have HF:=Hd hf;have HT:=Hd ht
   clear hf ht
   go_wp2_with fail
   ·have hrf:r<(f:Int):=by assumption
    go_round
    case rel=>exact ⟨lo,(lo+hi) / 2,rfl,by go_num,hml,by omega,HLO.out,fun i h1 h2=>by have:=(HS.out _ hmid i h2 h1).1;have:=HF.out;omega⟩
    case measure=>simp [intOf];omega
   ·have hrt:(t:Int)<r:=by assumption
    go_round
    case rel=>exact ⟨(lo+hi) / 2+1,hi,by go_num,rfl,by omega,h33,fun i h1=>by have:=(HS.out i (by omega) _ hmid (by omega)).2;have:=HT.out;omega,HHI.out⟩
    case measure=>simp [intOf];omega
   ·go_ret
    have h1:(f:Int)≤r:=by omega
    have h2:r≤(t:Int):=by omega
    exact ⟨yW (by unfold letter;exact (zVh zM r _ hmid (by rw [HF.out];exact h1) (by rw [HT.out];exact h2)).symm),HB.out⟩
  ·go_wp2_with fail
   go_ret
   have hno:inR zM r=false:=zMy zM r fun i hi'=>by
    by_cases h:i<lo
    ·exact Or.inr (HLO.out i h)
    ·exact Or.inl (HHI.out i (by omega) hi')
   exact ⟨yW (by unfold letter;exact hno.symm),HB.out⟩
end Go.Proofs.YtfalelkfhandfaaGreatDoor
namespace Go.Proofs.YtfalelkfhandfaaGreatDoor
set_option maxRecDepth 100000
set_option maxHeartbeats 32000000
open Go.RowKit

theorem zMx (r:Int) (hr:-2147483648≤r∧r≤2147483647) (w:World) :
  Calls Tryz.prog 81 #[.int .i32 r] w fun e w'=>e=.returned (.bool (digit r))∧w=w':=by
 have i0:∀ w,(Instr.index 159 (.agg #[.int .i32 48,.int .i32 1632,.int .i32 2406,.int .i32 3664,.int .i32 65296]) (.int .i64 0)).run Tryz.prog w=.ok (.int .i32 48) w:=fun _=>by kernel_rfl
 have i1:∀ w,(Instr.index 159 (.agg #[.int .i32 48,.int .i32 1632,.int .i32 2406,.int .i32 3664,.int .i32 65296]) (.int .i64 1)).run Tryz.prog w=.ok (.int .i32 1632) w:=fun _=>by kernel_rfl
 have i2:∀ w,(Instr.index 159 (.agg #[.int .i32 48,.int .i32 1632,.int .i32 2406,.int .i32 3664,.int .i32 65296]) (.int .i64 2)).run Tryz.prog w=.ok (.int .i32 2406) w:=fun _=>by kernel_rfl
 have i3:∀ w,(Instr.index 159 (.agg #[.int .i32 48,.int .i32 1632,.int .i32 2406,.int .i32 3664,.int .i32 65296]) (.int .i64 3)).run Tryz.prog w=.ok (.int .i32 3664) w:=fun _=>by kernel_rfl
 have i4:∀ w,(Instr.index 159 (.agg #[.int .i32 48,.int .i32 1632,.int .i32 2406,.int .i32 3664,.int .i32 65296]) (.int .i64 4)).run Tryz.prog w=.ok (.int .i32 65296) w:=fun _=>by kernel_rfl
 go_enter Tryz.func81,Tryz.ntmps81
 go_wp2_with fail
 go_rounds 7
 all_goals go_ret
 all_goals (refine ⟨yW ?_,rfl⟩;clear i0 i1 i2 i3 i4;rw [Bool.eq_iff_iff];unfold digit inR vO;simp;omega)
theorem zGn (r:Int) (hr:-2147483648≤r∧r≤2147483647) (w:World) :
  Calls Tryz.prog 181 #[.int .i32 r] w fun e w'=>e=.returned (.int .i64 (base r))∧w=w':=by
 go_enter Tryz.func181,Tryz.ntmps181
 go_wp2_with fail
 all_goals go_ret
 all_goals (refine ⟨zAn ?_,rfl⟩)
 all_goals (clear hr;unfold base;repeat (first | rw [if_pos (by omega)] | rw [if_neg (by omega)] | rfl))
theorem zPu (s:ByteArray) (w:World) :
  Calls Tryz.prog 78 #[.string s] w fun e w'=>e=.returned (.bool (word s))∧w=w':=by
 go_enter Tryz.func78,Tryz.ntmps78
 go_wp2_with fail
 all_goals go_ret
 all_goals (refine ⟨yW ?_,rfl⟩)
 all_goals first | (unfold word words;simp only [List.any_cons,List.any_nil, *,Bool.true_or,Bool.or_true,Bool.or_false];done) | (exfalso;simp_all;done)
end Go.Proofs.YtfalelkfhandfaaGreatDoor
namespace Go.Proofs.YtfalelkfhandfaaGreatDoor
set_option maxRecDepth 100000
set_option maxHeartbeats 32000000
open Go.RowKit

def nats (l:List Nat):List Int:=l.map fun (n:Nat)=>(n:Int)
theorem zLd (s:ByteArray):s.toList.isEmpty=decide (s.size=0):=by
 rw [ByteArray.toList_eq,Bool.eq_iff_iff,List.isEmpty_iff_length_eq_zero,← xB];simp
theorem jL (s:ByteArray) (w:World) (hT:Tabs w) :
  Calls Tryz.prog 60 #[.string s] w fun e w'=>e=.returned (.bool (name s))∧Below w.heap.size w w':=by
 have CW:=Hd (fun w=>zPu s w)
 have CB:=Hd (fun w hT=>zUp s w hT)
 have HN:=Hd (show name s=(!s.toList.isEmpty&&!word s&&decide (bad s<0)&&chk true (nats (chars s))) by unfold name nats;rfl)
 cases he:s.toList.isEmpty
 ·have he2:(s.toList == [])=false:=by
   rw [beq_eq_false_iff_ne];intro e;rw [e] at he;cases he
  cases hw:word s
  ·rw [hw] at CW
   by_cases hb:bad s<0
   ·have hb2:decide (0≤bad s)=false:=by simpa using hb
    have HB:=Hd ((zGe s).1 hb)
    have HN2:Hid (name s=chk true (nats (scan s 0).1)):=by
     have:=HN.out
     rw [he,hw,decide_eq_true hb] at this
     rw [this];unfold chars;rfl
    clear HN hw hb
    go_enter Tryz.func60,Tryz.ntmps60
    go_wp2_with fail
    refine (CW.out _).mono ?_;rintro e w1 ⟨rfl,rfl⟩
    go_wp2_with fail
    refine (CB.out _ hT).mono ?_;rintro e w1 ⟨rfl,hb1⟩
    go_wp2_with fail
    have hz1:=hb1.size
    go_loopw [] (fun wr=>∃ pos,wr.heap[w1.heap.size]?=some (.stringIter s pos)∧pos≤s.size∧(scan s pos).2=none∧name s=chk (pos == 0) (nats (scan s pos).1)∧Below w.heap.size w wr) (fun wr=>iterLeft w1.heap.size wr)
    case atStart=>exact ⟨0,World.iter_heap _ _ _,Nat.zero_le _,HB.out,HN2.out,hb1.alloc hb1.size _⟩
    case round =>
     obtain ⟨pos,hk,hpos,hnn,hnm,hb⟩:=hrel
     have HK:=Hd hk
     have HNM:=Hd hnm
     have HNN:=Hd hnn
     have hz:=zP hk
     clear hnm
     by_cases hp:pos<s.size
     ·have hn:=fun ty=>Lib.run_next_any_at (P:=Tryz.prog) wr w1.heap.size s pos ty hk hp
      have hb2':Below w.heap.size w (wr.iterAt w1.heap.size s (pos+(Utf8.decode s pos).2)):=Lib.below_iterAt hb (by omega) _ _
      have hk2:=Lib.iterAt_heap wr w1.heap.size s pos (pos+(Utf8.decode s pos).2) hk
      generalize hW:wr.iterAt w1.heap.size s (pos+(Utf8.decode s pos).2)=W at *
      rcases zDu s pos hp with ⟨h1,h2⟩ | ⟨h1,h2,h3,h4,h5,h6⟩
      ·exact absurd h1 (zPg hp hnn)
      ·have HR:=Hd (gV hp (by omega))
       have hrl:=yCb s pos
       rw [h6] at hn hk2
       generalize rd s pos=d at *
       obtain ⟨d1,d2⟩:=d
       simp only [] at *
       have hp2:=Hd h3
       have CL:=Hd (fun w=>zLc d1 w)
       have CD:=Hd (fun w=>zMx d1 (by omega) w)
       have hnx:name s=((letter d1 || (!(pos == 0)&&digit d1))&&chk false (nats (scan s (pos+d2)).1)):=by
        rw [HNM.out,HR.out];rfl
       have HNX:=Hd hnx
       have hq:((pos:Int) == 0)=(pos == 0):=by rw [Bool.eq_iff_iff];simp
       have hp0:(pos+d2 == 0)=false:=by simp;omega
       have HP0:=Hd hp0
       clear hW h4 h5 h6 h3 hk hnn hnx hp0
       cases hl:letter d1
       ·rw [hl] at CL HNX
        cases h0:(pos == 0)
        ·rw [h0] at hq HNX
         cases hd:digit d1
         ·rw [hd] at CD HNX
          clear hl hd h0
          go_wp2_with fail
          refine (CL.out _).mono ?_;rintro e w3 ⟨rfl,hb3⟩
          go_wp2_with fail
          refine (CD.out _).mono ?_;rintro e w4 ⟨rfl,rfl⟩
          go_wp2_with fail
          go_ret
          exact ⟨yW (by rw [HNX.out];rfl),zB hb2' hb3⟩
         ·rw [hd] at CD HNX
          clear hl hd h0
          go_wp2_with fail
          refine (CL.out _).mono ?_;rintro e w3 ⟨rfl,hb3⟩
          have hk3:=keeps hb3 hk2
          go_wp2_with fail
          refine (CD.out _).mono ?_;rintro e w4 ⟨rfl,rfl⟩
          go_wp2_with fail
          go_roundw
          case rel=>exact ⟨pos+d2,hk3,hp2.out,by rw [← HNN.out,HR.out],by rw [HNX.out,HP0.out];rfl,zB hb2' hb3⟩
          case measure=>rw [vY hk3,vY HK.out];have:=hp2.out;omega
        ·rw [h0] at hq HNX
         clear hl h0
         go_wp2_with fail
         refine (CL.out _).mono ?_;rintro e w3 ⟨rfl,hb3⟩
         go_wp2_with fail
         go_ret
         exact ⟨yW (by rw [HNX.out];rfl),zB hb2' hb3⟩
       ·rw [hl] at CL HNX
        clear hl hq
        go_wp2_with fail
        refine (CL.out _).mono ?_;rintro e w3 ⟨rfl,hb3⟩
        have hk3:=keeps hb3 hk2
        go_wp2_with fail
        go_roundw
        case rel=>exact ⟨pos+d2,hk3,hp2.out,by rw [← HNN.out,HR.out],by rw [HNX.out,HP0.out];simp,zB hb2' hb3⟩
        case measure=>rw [vY hk3,vY HK.out];have:=hp2.out;omega
     ·have hn:=fun ty=>Lib.run_next_end_at (P:=Tryz.prog) wr w1.heap.size s pos ty hk hp
      have HE:=Hd (show name s=true by rw [HNM.out,zAi (by omega)];rfl)
      clear hk hnn
      go_wp2_with fail
      go_ret
      exact ⟨yW HE.out.symm,hb⟩
   ·have hb2:decide (0≤bad s)=true:=by simpa using hb
    have HN2:Hid (name s=false):=by
     have:=HN.out
     rw [he,hw,decide_eq_false hb] at this
     rw [this];rfl
    clear HN hw hb
    go_enter Tryz.func60,Tryz.ntmps60
    go_wp2_with fail
    refine (CW.out _).mono ?_;rintro e w1 ⟨rfl,rfl⟩
    go_wp2_with fail
    refine (CB.out _ hT).mono ?_;rintro e w1 ⟨rfl,hb1⟩
    go_wp2_with fail
    go_ret
    exact ⟨yW HN2.out.symm,hb1⟩
  ·rw [hw] at CW
   have HN2:Hid (name s=false):=by
    have:=HN.out
    rw [he,hw] at this
    rw [this];rfl
   clear HN hw
   go_enter Tryz.func60,Tryz.ntmps60
   go_wp2_with fail
   refine (CW.out _).mono ?_;rintro e w1 ⟨rfl,rfl⟩
   go_wp2_with fail
   go_ret
   exact ⟨yW HN2.out.symm,Below.refl _ _⟩
 ·have he2:(s.toList == [])=true:=by
   rw [List.isEmpty_iff.1 he];rfl
  have HN2:Hid (name s=false):=by
   have:=HN.out
   rw [he] at this
   rw [this];rfl
  clear HN
  go_enter Tryz.func60,Tryz.ntmps60
  go_wp2_with fail
  go_ret
  exact ⟨yW HN2.out.symm,Below.refl _ _⟩
end Go.Proofs.YtfalelkfhandfaaGreatDoor
namespace Go.Proofs.YtfalelkfhandfaaGreatDoor
set_option maxRecDepth 100000
set_option maxHeartbeats 32000000
open Go.RowKit

def digitCells (k:IntKind):Array Value:=(vO.flatMap fun p=>[Value.int k p.1,Value.int k p.2]).toArray
def wordVals:Array Value:=(words.map fun l=>Value.string ⟨l.toArray⟩).toArray
theorem zRy (w:World) (C:Array Value) (t:TypeId) (n sz:Nat) (h:C.size=n*sz):Row (w.alloc (.cells C t)) (.slice (some ⟨w.heap.size,0,none⟩) n n) n sz C.toList :=
 ⟨by simpa using h,some ⟨w.heap.size,0,none⟩,n,rfl,Nat.le_refl _,by simp,fun _=>⟨w.heap.size,0,rfl,by simp,fun i _=>by rw [Nat.zero_add,World.cell?_alloc_at _ _ _ _ rfl];simp⟩⟩
theorem zOg (w:World) :
  Calls Tryz.prog 110 #[] w fun e w'=>e=.returned (.slice (some ⟨w.heap.size,0,none⟩) 33 33)∧w'=w.alloc (.cells (yS .i64) 184):=by
 go_enter Tryz.func110,Tryz.ntmps110
 go_upto_region 1 with (fail)
 refine wp_region_lit ?_
 refine gM 35 (w.alloc (.cells (yS .i64) 184)) (by kernel_rfl) (by kernel_rfl) ?_
 refine wpList_nil ?_
 generalize hA:actOf _ _ _ _=A
 have hA0:A.tmps.getD 0 undef=.slice (some ⟨w.heap.size,0,none⟩) 33 33:=by rw [← hA];kernel_rfl
 have hAd:A.defers=[]:=by rw [← hA];kernel_rfl
 clear hA
 obtain ⟨tm,df⟩:=A
 simp only [] at hA0 hAd
 subst hAd
 rename_i hK
 refine hK _ _ (wp_ret ?_)
 refine bodyPost_ret (results_tmp rfl _ _ _) rfl ?_
 exact ⟨by rw [hA0],rfl⟩
theorem zQo (w:World) :
  Calls Tryz.prog 111 #[] w fun e w'=>e=.returned (.slice (some ⟨w.heap.size,0,none⟩) 5 5)∧w'=w.alloc (.cells (digitCells .i64) 184):=by
 go_enter Tryz.func111,Tryz.ntmps111
 go_upto_region 1 with (fail)
 refine wp_region_lit ?_
 refine gM 7 (w.alloc (.cells (digitCells .i64) 184)) (by kernel_rfl) (by kernel_rfl) ?_
 refine wpList_nil ?_
 generalize hA:actOf _ _ _ _=A
 have hA0:A.tmps.getD 0 undef=.slice (some ⟨w.heap.size,0,none⟩) 5 5:=by rw [← hA];kernel_rfl
 have hAd:A.defers=[]:=by rw [← hA];kernel_rfl
 clear hA
 obtain ⟨tm,df⟩:=A
 simp only [] at hA0 hAd
 subst hAd
 rename_i hK
 refine hK _ _ (wp_ret ?_)
 refine bodyPost_ret (results_tmp rfl _ _ _) rfl ?_
 exact ⟨by rw [hA0],rfl⟩
theorem zTp (w:World) :
  Calls Tryz.prog 108 #[] w fun e w'=>e=.returned (.slice (some ⟨w.heap.size,0,none⟩) 25 25)∧w'=w.alloc (.cells wordVals 9):=by
 go_enter Tryz.func108,Tryz.ntmps108
 go_upto_region 1 with (fail)
 refine wp_region_lit ?_
 refine gM 2 (w.alloc (.cells wordVals 9)) (by kernel_rfl) (by kernel_rfl) ?_
 refine wpList_nil ?_
 generalize hA:actOf _ _ _ _=A
 have hA0:A.tmps.getD 0 undef=.slice (some ⟨w.heap.size,0,none⟩) 25 25:=by rw [← hA];kernel_rfl
 have hAd:A.defers=[]:=by rw [← hA];kernel_rfl
 clear hA
 obtain ⟨tm,df⟩:=A
 simp only [] at hA0 hAd
 subst hAd
 rename_i hK
 refine hK _ _ (wp_ret ?_)
 refine bodyPost_ret (results_tmp rfl _ _ _) rfl ?_
 exact ⟨by rw [hA0],rfl⟩

def rangeVals (l:List (Nat×Nat)):List Value:=l.flatMap fun p=>[Value.int .i64 p.1,Value.int .i64 p.2]
theorem zMa (l:List (Nat×Nat)) (i:Nat) (hi:i<l.length):(rangeVals l)[i*2]?=some (.int .i64 (frm l i))∧(rangeVals l)[i*2+1]?=some (.int .i64 (too l i)):=by
 induction l generalizing i with
 | nil=>simp at hi
 | cons p l ih =>
  cases i with
  | zero=>exact ⟨rfl,rfl⟩
  | succ i =>
   have:=ih i (by simpa using hi)
   have e1:(i+1)*2=i*2+2:=by omega
   rw [e1]
   exact this
theorem zWv (r:Int) (v:Value) (l:List (Nat×Nat)) (w:World) (hv:Row w v l.length 2 (rangeVals l)) (hl:l.length≤1000000) (hb0:∀ i,i<l.length→frm l i≤1114112∧too l i≤1114112) :
  Calls Tryz.prog 109 #[.int .i64 r,v] w fun e w'=>e=.returned (.bool (inR l r))∧w=w':=by
 obtain ⟨_,a,cap,rfl,hc,_,hcell⟩:=hv
 have HC:=Hd hcell
 have HB:=Hd hb0
 clear hcell hb0
 go_enter Tryz.func109,Tryz.ntmps109
 go_wp2_with fail
 go_loop [5] (fun i=>∃ k:Nat,i=.int .i64 k∧k≤l.length∧(∀ j,j<k→r<(frm l j:Int)∨(too l j:Int)<r)) (fun i=>l.length-(intOf i).toNat)
 case atStart=>exact ⟨0,rfl,Nat.zero_le _,fun j h=>by omega⟩
 case round =>
  obtain ⟨k,rfl,hk,hno⟩:=hrel
  have HN:=Hd hno
  clear hno
  by_cases hlt:k<l.length
  ·obtain ⟨b,off,rfl,hbl,hcl⟩:=HC.out (by omega)
   have hv:=zMa l k hlt
   have h0:w.cell? ⟨b,off+k*2,none⟩=some (.int .i64 (frm l k)):=by rw [hcl _ (by omega)];exact hv.1
   have h1:w.cell? ⟨b,off+k*2+1,none⟩=some (.int .i64 (too l k)):=by rw [Nat.add_assoc,hcl _ (by omega)];exact hv.2
   have hyes:=zVh l r k hlt
   have hkl:(k:Int)<l.length:=by omega
   have hbk:=HB.out k hlt
   clear hcl hv
   generalize hf:frm l k=f at *
   generalize ht:too l k=t at *
   have HF:=Hd hf;have HT:=Hd ht
   have HY:=Hd hyes
   clear hf ht hyes
   by_cases g1:(f:Int)≤r
   ·by_cases g2:r≤(t:Int)
    ·go_wp2_with fail
     go_ret
     exact ⟨yW (HY.out g1 g2).symm,rfl⟩
    ·go_wp2_with fail
     go_round
     case rel=>exact ⟨k+1,by go_num,by omega,fun j hj=>by
      by_cases e:j=k
      ·subst e;have:=HT.out;omega
      ·exact HN.out j (by omega)⟩
     case measure=>simp [intOf];omega
   ·go_wp2_with fail
    go_round
    case rel=>exact ⟨k+1,by go_num,by omega,fun j hj=>by
     by_cases e:j=k
     ·subst e;have:=HF.out;omega
     ·exact HN.out j (by omega)⟩
    case measure=>simp [intOf];omega
  ·have hkl:(l.length:Int)≤k:=by omega
   have HX:=Hd (zMy l r fun i hi=>HN.out i (by omega))
   go_wp2_with fail
   go_ret
   exact ⟨yW HX.out.symm,rfl⟩
theorem zEm:(yS .i64).toList=rangeVals zM:=rfl
theorem zFu:(digitCells .i64).toList=rangeVals vO:=rfl
theorem zMb:∀ i,i<5→frm vO i≤1114112∧too vO i≤1114112:=by decide +kernel
theorem zHv:∀ i,i<33→frm zM i≤1114112∧too zM i≤1114112:=by decide +kernel
theorem zHw (r:Int) (w:World) :
  Calls Tryz.prog 90 #[.int .i64 r] w fun e w'=>e=.returned (.bool (letter r))∧Below w.heap.size w w':=by
 have hR:=zRy w (yS .i64) 184 33 2 (by decide +kernel)
 rw [zEm] at hR
 have HL:=Hd (show letter r=inR zM r by unfold letter;rfl)
 have HI:=Hd (zWv r _ zM _ hR (by decide) zHv)
 have HC:=Hd (zOg w)
 have HB:=Hd ((Below.refl _ w).alloc (Nat.le_refl _) (.cells (yS .i64) 184))
 clear hR
 generalize inR zM r=x at *
 generalize yS .i64=C at *
 go_enter Tryz.func90,Tryz.ntmps90
 go_wp2_with fail
 refine HC.out.mono ?_;rintro e w1 ⟨rfl,rfl⟩
 go_wp2_with fail
 refine HI.out.mono ?_;rintro e w1 ⟨rfl,rfl⟩
 go_wp2_with fail
 go_ret
 exact ⟨yW HL.out.symm,HB.out⟩
theorem zTq (r:Int) (w:World) :
  Calls Tryz.prog 91 #[.int .i64 r] w fun e w'=>e=.returned (.bool (digit r))∧Below w.heap.size w w':=by
 have hR:=zRy w (digitCells .i64) 184 5 2 (by decide +kernel)
 rw [zFu] at hR
 have HL:=Hd (show digit r=inR vO r by unfold digit;rfl)
 have HI:=Hd (zWv r _ vO _ hR (by decide) zMb)
 have HC:=Hd (zQo w)
 have HB:=Hd ((Below.refl _ w).alloc (Nat.le_refl _) (.cells (digitCells .i64) 184))
 clear hR
 generalize inR vO r=x at *
 generalize digitCells .i64=C at *
 go_enter Tryz.func91,Tryz.ntmps91
 go_wp2_with fail
 refine HC.out.mono ?_;rintro e w1 ⟨rfl,rfl⟩
 go_wp2_with fail
 refine HI.out.mono ?_;rintro e w1 ⟨rfl,rfl⟩
 go_wp2_with fail
 go_ret
 exact ⟨yW HL.out.symm,HB.out⟩
theorem zOh (i:Nat) (hi:i<25):wordVals[i]?=some (.string ⟨(words.getD i []).toArray⟩):=by
 have h:i<words.length:=hi
 unfold wordVals
 simp only [List.getElem?_toArray,List.getElem?_map,List.getElem?_eq_getElem h,Option.map_some,List.getD_eq_getElem?_getD,Option.getD_some]
theorem zWw (s:ByteArray) (i:Nat) (hi:i<25) (h:(words.getD i [] == s.toList)=true):word s=true:=by
 have h2:i<words.length:=hi
 unfold word
 rw [List.any_eq_true]
 refine ⟨words[i],List.getElem_mem h2,?_⟩
 rw [List.getD_eq_getElem?_getD,List.getElem?_eq_getElem h2,Option.getD_some,beq_iff_eq] at h
 rw [beq_iff_eq,h]
theorem zZy (s:ByteArray) (h:∀ i,i<25→(words.getD i [] == s.toList)=false):word s=false:=by
 unfold word
 rw [List.any_eq_false]
 intro x hx
 obtain ⟨i,hi,rfl⟩:=List.getElem_of_mem hx
 have:=h i hi
 rw [List.getD_eq_getElem?_getD,List.getElem?_eq_getElem hi,Option.getD_some,beq_eq_false_iff_ne] at this
 simp only [beq_iff_eq]
 exact fun e=>this e.symm
theorem zWx (s:ByteArray) (w:World) :
  Calls Tryz.prog 89 #[.string s] w fun e w'=>e=.returned (.bool (word s))∧Below w.heap.size w w':=by
 have HC:=Hd (zTp w)
 have HW:=Hd zOh
 have HB:=Hd ((Below.refl _ w).alloc (Nat.le_refl _) (.cells wordVals 9))
 have hcell:∀ j,(w.alloc (.cells wordVals 9)).cell? ⟨w.heap.size,j,none⟩=wordVals[j]?:=fun j=>World.cell?_alloc_at _ _ _ _ rfl
 have HCL:=Hd hcell
 clear hcell
 generalize wordVals=C at *
 go_enter Tryz.func89,Tryz.ntmps89
 go_wp2_with fail
 refine HC.out.mono ?_;rintro e w1 ⟨rfl,rfl⟩
 generalize w.alloc (.cells C 9)=W at *
 go_wp2_with fail
 go_loop [4] (fun i=>∃ k:Nat,i=.int .i64 k∧k≤25∧(∀ j,j<k→(words.getD j [] == s.toList)=false)) (fun i=>25-(intOf i).toNat)
 case atStart=>exact ⟨0,rfl,Nat.zero_le _,fun j h=>by omega⟩
 case round =>
  obtain ⟨k,rfl,hk,hno⟩:=hrel
  have HN:=Hd hno
  clear hno
  by_cases hlt:k<25
  ·have h0:W.cell? ⟨w.heap.size,k,none⟩=some (.string ⟨(words.getD k []).toArray⟩):=by rw [HCL.out,HW.out k hlt]
   have hyes:=zWw s k hlt
   have hnn:∀ _:(words.getD k [] == s.toList)=false,∀ j,j<k+1→(words.getD j [] == s.toList)=false:=fun hx j hj=>by
    by_cases e:j=k
    ·subst e;exact hx
    ·exact HN.out j (by omega)
   generalize words.getD k []=x at *
   have HY:=Hd hyes;have HNN:=Hd hnn
   clear hyes hnn
   go_wp2_with fail
   ·have hx:(x == s.toList)=true:=by assumption
    go_ret
    exact ⟨yW (HY.out hx).symm,HB.out⟩
   ·have hx:(x == s.toList)=false:=by assumption
    go_round
    case rel=>exact ⟨k+1,by go_num,by omega,HNN.out hx⟩
    case measure=>simp [intOf];omega
  ·have HX:=Hd (zZy s fun i hi=>HN.out i (by omega))
   go_wp2_with fail
   go_ret
   exact ⟨yW HX.out.symm,HB.out⟩
end Go.Proofs.YtfalelkfhandfaaGreatDoor
namespace Go.Proofs.YtfalelkfhandfaaGreatDoor
open Go.RowKit

def ints (l:List Nat):List Int:=l.map fun (x:Nat)=>(x:Int)
theorem zIu (l:List Nat):longVals l=(ints l).map (Value.int .i64):=by simp [longVals,ints]
theorem zEv (l:List Nat):(ints l).length=l.length:=by simp [ints]
@[irreducible] def charsOk (s:ByteArray):List Int:=if bad s<0 then ints (chars s) else []
theorem zAl {s:ByteArray} (h:bad s<0):charsOk s=ints (chars s):=by unfold charsOk;rw [if_pos h]
theorem zMr {s:ByteArray} (h:0≤bad s):charsOk s=[]:=by unfold charsOk;rw [if_neg (by omega)]
theorem zGg (s:ByteArray):(charsOk s).length≤s.size:=by
 unfold charsOk;split
 ·rw [zEv];exact zMn s
 ·simp
theorem zVa (s:ByteArray) (w:World) (hs:s.size≤1099511627775) :
  Calls Tryz.prog 88 #[.string s] w fun e w'=>∃ v,e=.returned (.tuple #[v,.bool (decide (bad s<0))])∧Below w.heap.size w w'∧w'.ownsRow w.heap.size 2 1 v (charsOk s).length ((charsOk s).map (Value.int .i64)):=by
 by_cases h:bad s<0
 ·refine (zZx s w hs h).mono ?_
  rintro e w' ⟨v,rfl,hb,hown⟩
  exact ⟨v,by simp [h],hb,by rw [zAl h,zEv,← zIu];exact hown⟩
 ·refine (zOf s w hs (by omega)).mono ?_
  rintro e w' ⟨rfl,hb⟩
  exact ⟨.slice none 0 0,by simp [h],hb,by rw [zMr (by omega)];exact World.ownsRow_nil _ _ _ _⟩
end Go.Proofs.YtfalelkfhandfaaGreatDoor
namespace Go.Proofs.YtfalelkfhandfaaGreatDoor
set_option maxRecDepth 100000
set_option maxHeartbeats 32000000
open Go.RowKit

theorem zTr (l:List Int):chk false l=l.all fun x=>letter x || digit x:=by
 induction l with
 | nil=>rfl
 | cons x l ih=>simp [chk,ih]
def okAll (l:List Int):Bool:=l.all fun x=>letter x || digit x
theorem zWy (l:List Int) (i:Nat) (hi:i<l.length) (h1:letter l[i]=false) (h2:digit l[i]=false):okAll l=false:=by
 unfold okAll;rw [List.all_eq_false];exact ⟨l[i],List.getElem_mem hi,by simp [h1,h2]⟩
theorem zTs (l:List Int) (h:∀ i (hi:i<l.length),(letter l[i] || digit l[i])=true):okAll l=true:=by
 unfold okAll;rw [List.all_eq_true]
 intro x hx
 obtain ⟨i,hi,rfl⟩:=List.getElem_of_mem hx
 exact h i hi
theorem zDn (s:ByteArray):name s=(!s.toList.isEmpty&&!word s&&decide (bad s<0)&&chk true (nats (chars s))):=by unfold name nats;rfl
theorem zWz {s:ByteArray} (h:¬ bad s<0):name s=false:=by rw [zDn,decide_eq_false h];simp
theorem zTt {s:ByteArray} (h:word s=true):name s=false:=by rw [zDn,h];simp
theorem zFh {s:ByteArray} (h:bad s<0):chars s=[]↔s.toList.isEmpty=true:=by
 rw [zLd]
 have hn:=(zGe s).1 h
 unfold chars
 constructor
 ·intro e
  by_cases hz:0<s.size
  ·have h0:(rd s 0).2≠0:=by
    rcases zDu s 0 hz with ⟨h1,_⟩ | ⟨h1,_⟩
    ·exact absurd h1 (zPg hz hn)
    ·exact Nat.ne_of_gt h1
   rw [gV hz h0] at e
   cases e
  ·exact decide_eq_true (by omega)
 ·intro e
  have:s.size=0:=by simpa using e
  rw [zAi (by omega)]
theorem zXa {s:ByteArray} (hb:bad s<0) (h:charsOk s=[]):name s=false:=by
 rw [zAl hb] at h
 have:chars s=[]:=by unfold ints at h;simpa using h
 rw [zDn,(zFh hb).1 this];simp
theorem zTu {s:ByteArray} (hb:bad s<0) (hw:word s=false) (hn:0<(charsOk s).length):name s=(letter ((charsOk s)[0]'hn)&&okAll (charsOk s)):=by
 have e:=zAl hb
 have hne:s.toList.isEmpty=false:=by
  cases h:s.toList.isEmpty
  ·rfl
  ·have:=(zFh hb).2 h
   rw [e,this] at hn;simp [ints] at hn
 have e2:nats (chars s)=charsOk s:=by rw [e];rfl
 rw [zDn,hne,hw,decide_eq_true hb,e2]
 generalize charsOk s=l at *
 cases l with
 | nil=>simp at hn
 | cons x l =>
  simp only [chk,zTr,okAll,List.all_cons,List.getElem_cons_zero]
  cases letter x <;> simp
theorem zHx (s:ByteArray) (w:World) (hs:s.size≤1099511627775) :
  Calls Tryz.prog 65 #[.string s] w fun e w'=>e=.returned (.bool (name s))∧Below w.heap.size w w':=by
 have CA:=Hd (fun w=>zVa s w hs)
 have CW:=Hd (fun w=>zWx s w)
 by_cases hb:bad s<0
 ·have hcl:=zGg s
  have H0:=Hd (@zXa s hb)
  have H1:=Hd (@zTt s)
  have H2:=Hd (@zTu s hb)
  rw [decide_eq_true hb] at CA
  generalize charsOk s=l at *
  clear hb
  go_enter Tryz.func65,Tryz.ntmps65
  go_wp2_with fail
  refine (CA.out _).mono ?_;rintro e w1 ⟨v,rfl,hb1,hown⟩
  have hr:=zI.of_owns hown
  obtain ⟨a,cap,rfl,hc,hcell⟩:=hr.open'
  have HC:=Hd hcell
  clear hcell hown hr
  by_cases hl:l=[]
  ·subst hl
   go_wp2_with fail
   go_ret
   exact ⟨yW (H0.out (by simp)).symm,hb1⟩
  ·have hpos:0<l.length:=List.length_pos_iff.2 hl
   have hp1:((l.length:Int) == 0)=false:=by simp;omega
   have HL:=Hd hl
   clear hl
   cases hw:word s
   ·rw [hw] at CW
    have HN:=Hd (H2.out hw hpos)
    clear hw H0 H1 H2
    go_wp2_with fail
    refine (CW.out _).mono ?_;rintro e w2 ⟨rfl,hb2⟩
    have hb12:=zB hb1 hb2
    obtain ⟨b,off,rfl,hbl,hcl'⟩:=HC.out hpos
    have h0:=(hb2.cell (p:=⟨b,off+0,none⟩) hbl).trans (hcl' 0 hpos)
    rw [Nat.add_zero] at h0
    have HCL:=Hd hcl'
    have C0:=Hd (fun w=>zHw l[0] w)
    have hpi:(0:Int)<l.length:=by omega
    clear hcl'
    generalize h00:l[0]=x0 at *
    have H00:=Hd h00
    clear h00
    cases hl0:letter x0
    ·rw [hl0] at C0 HN
     clear hl0
     go_wp2_with fail
     refine (C0.out _).mono ?_;rintro e w3 ⟨rfl,hb3⟩
     go_wp2_with fail
     go_ret
     exact ⟨yW (by rw [HN.out];rfl),zB hb12 hb3⟩
    ·rw [hl0] at C0 HN
     clear hl0
     go_wp2_with fail
     refine (C0.out _).mono ?_;rintro e w3 ⟨rfl,hb3⟩
     have hb13:=zB hb12 hb3
     have hb23:=zB hb2 hb3
     clear h0
     go_wp2_with fail
     go_loopw [5] (fun i wr=>∃ k:Nat,i=.int .i64 k∧k≤l.length∧(∀ j (hj:j<l.length),j<k→(letter l[j] || digit l[j])=true)∧Below w1.heap.size w1 wr) (fun i _=>l.length-(intOf i).toNat)
     case atStart=>exact ⟨0,rfl,Nat.zero_le _,fun j _ h=>by omega,hb23⟩
     case round =>
      obtain ⟨k,rfl,hk,hyes,hbr⟩:=hrel
      have HY:=Hd hyes
      clear hyes
      have hb1r:=zB hb1 hbr
      by_cases hlt:k<l.length
      ·have h1:=(hbr.cell (p:=⟨b,off+k,none⟩) hbl).trans (HCL.out k hlt)
       have CL:=Hd (fun w=>zHw l[k] w)
       have CD:=Hd (fun w=>zTq l[k] w)
       have hnx:(letter l[k] || digit l[k])=true→∀ j (hj:j<l.length),j<k+1→(letter l[j] || digit l[j])=true:=fun hx j hj hjk=>by
        by_cases e:j=k
        ·subst e;exact hx
        ·exact HY.out j hj (by omega)
       have hno:=zWy l k hlt
       have HNX:=Hd hnx;have HNO:=Hd hno
       have hkl:(k:Int)<l.length:=by omega
       clear hnx hno
       generalize l[k]=x at *
       cases hlx:letter x
       ·rw [hlx] at CL HNX HNO
        cases hdx:digit x
        ·rw [hdx] at CD HNX HNO
         clear hlx hdx
         go_wp2_with fail
         refine (CL.out _).mono ?_;rintro e w4 ⟨rfl,hb4⟩
         have h2:=(hb4.cell (p:=⟨b,off+k,none⟩) (Nat.lt_of_lt_of_le hbl hbr.size)).trans h1
         clear h1
         go_wp2_with fail
         refine (CD.out _).mono ?_;rintro e w5 ⟨rfl,hb5⟩
         go_wp2_with fail
         go_ret
         exact ⟨yW (by rw [HN.out,HNO.out (by simp) (by simp)];rfl),zB (zB hb1r hb4) hb5⟩
        ·rw [hdx] at CD HNX
         clear hlx hdx
         go_wp2_with fail
         refine (CL.out _).mono ?_;rintro e w4 ⟨rfl,hb4⟩
         have h2:=(hb4.cell (p:=⟨b,off+k,none⟩) (Nat.lt_of_lt_of_le hbl hbr.size)).trans h1
         clear h1
         go_wp2_with fail
         refine (CD.out _).mono ?_;rintro e w5 ⟨rfl,hb5⟩
         go_wp2_with fail
         go_roundw
         case rel=>exact ⟨k+1,by go_num,by omega,HNX.out (by simp),zB (zB hbr hb4) hb5⟩
         case measure=>simp [intOf];omega
       ·rw [hlx] at CL HNX
        clear hlx
        go_wp2_with fail
        refine (CL.out _).mono ?_;rintro e w4 ⟨rfl,hb4⟩
        go_wp2_with fail
        go_roundw
        case rel=>exact ⟨k+1,by go_num,by omega,HNX.out (by simp),zB hbr hb4⟩
        case measure=>simp [intOf];omega
      ·have hkl:(l.length:Int)≤k:=by omega
       have HX:=Hd (zTs l fun i hi=>HY.out i hi (by omega))
       go_wp2_with fail
       go_ret
       exact ⟨yW (by rw [HN.out,HX.out];rfl),hb1r⟩
   ·rw [hw] at CW
    have HN:=Hd (H1.out hw)
    clear hw H0 H1 H2
    go_wp2_with fail
    refine (CW.out _).mono ?_;rintro e w2 ⟨rfl,hb2⟩
    go_wp2_with fail
    go_ret
    exact ⟨yW HN.out.symm,zB hb1 hb2⟩
 ·have HN:=Hd (zWz hb)
  rw [decide_eq_false hb] at CA
  clear hb
  go_enter Tryz.func65,Tryz.ntmps65
  go_wp2_with fail
  refine (CA.out _).mono ?_;rintro e w1 ⟨v,rfl,hb1,hown⟩
  go_wp2_with fail
  go_ret
  exact ⟨yW HN.out.symm,hb1⟩
end Go.Proofs.YtfalelkfhandfaaGreatDoor
