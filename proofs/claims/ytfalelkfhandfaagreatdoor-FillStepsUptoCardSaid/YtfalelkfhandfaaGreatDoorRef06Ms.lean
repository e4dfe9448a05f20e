/- Layer 6: the reference's number, small, escape and item, walked. -/
import Derived.Test.YtfalelkfhandfaaGreatDoorPackMs
import Derived.Test.YtfalelkfhandfaaGreatDoorQuotedPMs
import Derived.Test.YtfalelkfhandfaaGreatDoorRefBaseMs
import Derived.Test.YtfalelkfhandfaaGreatDoorStillMs
import Derived.Laws.Strings3
import Derived.Laws.DeepStrings4
import Derived.Test.YtfalelkfhandfaaGreatDoorQuoted6Ms
import Derived.Test.YtfalelkfhandfaaGreatDoorQuoted5Ms
namespace Go.Proofs.YtfalelkfhandfaaGreatDoor
set_option maxRecDepth 100000
set_option maxHeartbeats 32000000
set_option linter.all false
open Go.RowKit
attribute [local irreducible] wpStill

theorem zTz (s:ByteArray) (b:Int) (hb:0<b) (i c:Nat) (hi:i≤s.size) (h:s.size<i+c):num s b i c 0=none:=by
 cases hn:num s b i c 0 with
 | none=>rfl
 | some m =>
  have:=xV s b hb c i 0 m (by omega) hn
  omega
theorem zXg (s:ByteArray) (bs:Int) (i c:Nat) (n:Int) (h:i<s.size):num s bs i (c+1) n=if 0≤base (bt s i)∧base (bt s i)<bs then num s bs (i+1) c (n*bs+base (bt s i)) else none:=by
 rw [num]
 by_cases h1:0≤base (bt s i)∧base (bt s i)<bs
 ·rw [if_pos ⟨h,h1⟩,if_pos h1]
 ·rw [if_neg (fun hh=>h1 hh.2),if_neg h1]
def numZ (o:Option Int):Int:=o.getD (-1)
theorem zAw (s:ByteArray) (i count:Nat) (bs:Int) (hbs:bs=8∨bs=16) (hcnt:count≤8) (hi:i≤s.size) (hs:s.size≤140737488351232) (w:World) :
  Calls Tryz.prog 174 #[.string s,.int .i64 i,.int .i64 count,.int .i64 bs] w fun e w'=>e=.returned (.int .i64 (numZ (num s bs i count 0)))∧w=w':=by
 have HQ:Hid (∀ v,v=numZ (num s bs i count 0)→(fun (e:Ending) w'=>e=.returned (.int .i64 (numZ (num s bs i count 0)))∧w=w') (.returned (.int .i64 v)) w):=Hd fun v hv=>by subst hv;exact ⟨rfl,rfl⟩
 have HS:=Hd (zTz s bs (by omega) i count hi)
 generalize (fun (e:Ending) w'=>e=.returned (.int .i64 (numZ (num s bs i count 0)))∧w=w')=Q at *
 have hw0:IntKind.i64.wrap ((s.size:Int)-i)=(s.size:Int)-i:=wI (by omega)
 by_cases hsh:s.size<i+count
 ·have hsh':(s.size:Int)-i<count:=by omega
  have hz:=HS.out hsh
  have HZ:=Hd hz
  clear hz HS
  go_enter Tryz.func174,Tryz.ntmps174
  go_wp2_with fail
  show Q (.returned (.int .i64 _)) _
  exact HQ.out _ (by rw [HZ.out];rfl)
 ·have hsh':(count:Int)≤(s.size:Int)-i:=by omega
  clear HS
  have HB:=Hd zOq
  go_enter Tryz.func174,Tryz.ntmps174
  go_wp2_with fail
  go_loopw [9,10] (fun n k wr=>∃ (kk:Nat) (nn:Int),kk≤count∧n=.int .i64 nn∧k=.int .i64 kk∧0≤nn∧nn<16 ^ kk∧num s bs i count 0=num s bs (i+kk) (count-kk) nn∧wr=w) (fun _ k _=>count-(intOf k).toNat)
  case atStart=>exact ⟨0,0,Nat.zero_le _,rfl,rfl,by omega,by omega,rfl,rfl⟩
  case round =>
   obtain ⟨k,n,hk,rfl,rfl,hn0,hn1,hnum,rfl⟩:=hrel
   have HN:=Hd hnum
   clear hnum
   by_cases hlt:k<count
   ·have hkl:(k:Int)<count:=by omega
    have hp:i+k<s.size:=by omega
    have hp1:(i:Int)+k<s.size:=by omega
    have hp0:(0:Int)≤(i:Int)+k:=by omega
    have hwp:IntKind.i64.wrap ((i:Int)+k)=(i:Int)+k:=wI (by omega)
    have hpn:((i:Int)+k).toNat=i+k:=by omega
    have hbt:=yH s (i+k) hp
    have hbl:=xR s (i+k)
    have HST:=Hd (zXg s bs (i+k) (count-k-1) n hp)
    have hrange:=zHs (bt s (i+k))
    have C:=fun w=>zOq (bt s (i+k)) w
    have hw8:IntKind.i64.wrap (bt s (i+k):Int)=(bt s (i+k):Int):=wI (by omega)
    have hxx:∀ h,((s[i+k]'h).toNat:Int)=(bt s (i+k):Int):=fun h=>by rw [yH s (i+k) h]
    generalize hx:base (bt s (i+k))=x at *
    generalize bt s (i+k)=c at *
    have HX:=Hd hx
    have HC:=Hd C
    clear hx C
    go_wp2_with fail
    refine (HC.out _).mono ?_;rintro e w' ⟨rfl,rfl⟩
    by_cases g0:x<0
    ·go_wp2_with fail
     show Q (.returned (.int .i64 _)) _
     refine HQ.out _ ?_
     rw [HN.out,show count-k=count-k-1+1 by omega,HST.out,if_neg (by omega)];rfl
    ·by_cases g1:bs≤x
     ·go_wp2_with fail
      show Q (.returned (.int .i64 _)) _
      refine HQ.out _ ?_
      rw [HN.out,show count-k=count-k-1+1 by omega,HST.out,if_neg (by omega)];rfl
     ·have hpow:(16:Int) ^ k≤16 ^ 7:=by
       have:16 ^ k≤16 ^ 7:=Nat.pow_le_pow_right (by omega) (by omega)
       exact_mod_cast this
      have hpow1:(16:Int) ^ (k+1)=16 ^ k*16:=Int.pow_succ _ _
      have hm1:0≤n*bs∧n*bs≤n*16:=by rcases hbs with rfl | rfl <;> omega
      have hm2:n*bs+x<16 ^ (k+1):=by omega
      have hw1:IntKind.i64.wrap (n*bs)=n*bs:=wI (by omega)
      have hw2:IntKind.i64.wrap (n*bs+x)=n*bs+x:=wI (by omega)
      have hm3:0≤n*bs+x:=by omega
      have hgood:num s bs i count 0=num s bs (i+(k+1)) (count-(k+1)) (n*bs+x):=by
       rw [HN.out,show count-k=count-k-1+1 by omega,HST.out,if_pos (by omega)]
       congr 1
      have HGood:=Hd hgood
      clear hgood HST HN
      generalize hmul:n*bs=m at *
      go_wp2_with fail
      refine ⟨?_,(by simp [intOf];try omega)⟩
      exact ⟨k+1,m+x,by omega,by go_num,by go_num,hm3,hm2,HGood.out,by simp⟩
   ·have hkl:(count:Int)≤k:=by omega
    obtain rfl:k=count:=by omega
    go_wp2_with fail
    show Q (.returned (.int .i64 _)) _
    refine HQ.out _ ?_
    rw [HN.out,Nat.sub_self,num];rfl
theorem zKh (n:Int) (hn:0≤n∧n<256) (mark:Nat) (hm:mark=34∨mark=39) (w:World) :
  Calls Tryz.prog 175 #[.int .i64 n,.int .u8 mark] w fun e w'=>e=.returned (.string (strOfNums (small n mark)))∧Below w.heap.size w w':=by
 rcases hm with rfl | rfl
 ·have h1:small n 34=[n]:=by unfold small;rw [if_pos rfl]
  have HS:=Hd h1
  have hw:IntKind.u8.wrap n=n:=by unfold IntKind.wrap;simp [IntKind.signed,IntKind.bits];omega
  have c1:=gW w _ [n] 1 1 rfl rfl
  simp only [List.map_cons,List.map_nil] at c1
  clear h1
  go_enter Tryz.func175,Tryz.ntmps175
  go_wp2_with fail
  go_ret
  exact ⟨zBv (by rw [HS.out]),(Below.refl _ _).alloc (Nat.le_refl _) _⟩
 ·have h1:form n=strOfNums (small n 39):=by unfold form small;rw [if_neg (by omega)]
  have HS:=Hd h1
  have CF:=Hd (fB n)
  clear h1
  go_enter Tryz.func175,Tryz.ntmps175
  go_wp2_with fail
  refine (CF.out _).mono ?_;rintro e w' ⟨rfl,hb⟩
  go_wp2_with fail
  go_ret
  exact ⟨zBv HS.out,hb⟩
end Go.Proofs.YtfalelkfhandfaaGreatDoor
namespace Go.Proofs.YtfalelkfhandfaaGreatDoor
set_option maxRecDepth 100000
set_option maxHeartbeats 32000000
set_option linter.all false
open Go.RowKit
attribute [local irreducible] wpStill

def itemVal (o:Option (Nat×List Int)):Value:=match o with
 | none=>.agg #[.int .i64 0,.string ⟨#[]⟩]
 | some (n,l)=>.agg #[.int .i64 n,.string (strOfNums l)]
@[irreducible] def rescPost (s:ByteArray) (i mark:Nat) (w0:World) (e:Ending) (w':World):Prop:=e=.returned (itemVal (esc s i mark))∧Below w0.heap.size w0 w'
theorem zFj (tmps:Array Value) (w:World) (g:Nat) (x y:Value) (hp:tmps.getD 6 undef=.pointer (some ⟨g,0,none⟩)) (h0:w.heap[g]?=some (.cells #[x,y] 195 (0,0))) :
  (results Tryz.f163 tmps).run Tryz.prog w=.ok (.agg #[x,y]) w :=
 results_cell_row rfl tmps w g 195 #[x,y] (0,0) _ hp h0 Tryz.underlying195 rfl (by kernel_rfl)
structure IB (w W:World) (g:Nat):Prop where
 le:w.heap.size≤g
 below:Below w.heap.size w W
 row:∃ x y,W.heap[g]?=some (.cells #[x,y] 195 (0,0))
theorem IB.lt {w W:World} {g:Nat} (h:IB w W g):g<W.heap.size:=by obtain ⟨_,_,_,_,h3⟩:=h;exact zP h3
theorem IB.keep {w W W':World} {g:Nat} (h:IB w W g) (hb:Below W.heap.size W W'):IB w W' g:=by
 obtain ⟨h1,h2,x,y,h3⟩:=h
 exact ⟨h1,zB h2 hb,x,y,keeps hb h3⟩
theorem IB.alloc {w W:World} {g:Nat} (h:IB w W g) (o:Obj):IB w (W.alloc o) g:=h.keep ((Below.refl _ _).alloc (Nat.le_refl _) _)
theorem IB.c {w W:World} {g:Nat} (h:IB w W g):∃ x y,W.cell? ⟨g,0,none⟩=some x∧W.cell? ⟨g,1,none⟩=some y:=by
 obtain ⟨_,_,x,y,h3⟩:=h
 exact ⟨x,y,by simp [World.cell?,h3],by simp [World.cell?,h3]⟩
theorem IB.fz {w W:World} {g:Nat} (h:IB w W g) (k:Nat):W.frozen? ⟨g,k,none⟩=false:=by
 obtain ⟨_,_,x,y,h3⟩:=h;simp [World.frozen?,h3]
theorem IB.fin {w W:World} {g:Nat} (h:IB w W g) (x y:Value):((W.setCell ⟨g,0,none⟩ x).setCell ⟨g,1,none⟩ y).heap[g]?=some (.cells #[x,y] 195 (0,0))∧Below w.heap.size w ((W.setCell ⟨g,0,none⟩ x).setCell ⟨g,1,none⟩ y):=by
 obtain ⟨h1,h2,x0,y0,h3⟩:=h
 have h4:(W.setCell ⟨g,0,none⟩ x).heap[g]?=some (.cells #[x,y0] 195 (0,0)):=by rw [heap_setCell_same W g 0 _ _ _ h3];rfl
 refine ⟨?_,(h2.setCell (by exact h1) _).setCell (by exact h1) _⟩
 rw [heap_setCell_same _ g 1 _ _ _ h4]
 rfl
theorem zXh (k:Nat) (h:k<8) (h':k<(⟨#[97,98,102,110,114,116,118,92]⟩:ByteArray).size):(((⟨#[97,98,102,110,114,116,118,92]⟩:ByteArray)[k]'h').toNat:Int)=(yV.getD k 0:Nat):=by
 revert h'
 have:∀ k,k<8→∀ (h':k<(⟨#[97,98,102,110,114,116,118,92]⟩:ByteArray).size),(((⟨#[97,98,102,110,114,116,118,92]⟩:ByteArray)[k]'h').toNat:Int)=(yV.getD k 0:Nat):=by decide +kernel
 exact this k h
theorem zUa (c k:Nat) (hk:k<8) (hc:yV.getD k 0=c) (hno:∀ j,j<k→yV.getD j 0≠c):yV.idxOf c=k:=by
 subst hc
 have:∀ k,k<8→yV.idxOf (yV.getD k 0)=k:=by decide +kernel
 exact this k hk
theorem zXi (c:Nat) (hno:∀ j,j<8→yV.getD j 0≠c):¬ yV.idxOf c<8:=fun h=>by
 have h8:yV.idxOf c<yV.length:=h
 refine hno _ h ?_
 rw [List.getD_eq_getElem?_getD,List.getElem?_eq_getElem h8]
 simp
theorem zQv (s:ByteArray) (i mark:Nat) (hm:mark=34∨mark=39) (hi:i<s.size) (hs:s.size≤140737488351232) (w:World) :
  Calls Tryz.prog 163 #[.string s,.int .i64 i,.int .u8 mark] w (rescPost s i mark w):=by
 have HQ:Hid (∀ o w',esc s i mark=o→Below w.heap.size w w'→rescPost s i mark w (.returned (itemVal o)) w'):=Hd fun o w' h1 h2=>by unfold rescPost;rw [h1];exact ⟨rfl,h2⟩
 generalize rescPost s i mark w=Q at *
 have hw1:IntKind.i64.wrap ((i:Int)+1)=(i:Int)+1:=wI (by omega)
 have hw2:IntKind.i64.wrap ((i:Int)+2)=((i+2:Nat):Int):=wI (by omega)
 by_cases hsh:s.size≤i+1
 ·have hsh':(s.size:Int)≤(i:Int)+1:=by omega
  have hz:esc s i mark=none:=by unfold esc;rw [if_pos hsh]
  have HZ:=Hd hz
  clear hz
  go_enter Tryz.func163,Tryz.ntmps163
  go_wp2_with fail
  refine bodyPost_ret (zFj _ _ w.heap.size _ _ rfl (heap_alloc_new _ _)) rfl ?_
  exact HQ.out none _ HZ.out ((Below.refl _ _).alloc (Nat.le_refl _) _)
 ·have hsh':¬ (s.size:Int)≤(i:Int)+1:=by omega
  have hp:i+1<s.size:=by omega
  have hp1:(i:Int)+1<s.size:=by omega
  have hp0:(0:Int)≤(i:Int)+1:=by omega
  have hbl:=xR s (i+1)
  have hxx:∀ h,((s[i+1]'h).toNat:Int)=(bt s (i+1):Int):=fun h=>by rw [yH s (i+1) h]
  have hesc:esc s i mark=if yV.idxOf (bt s (i+1))<8 then some (2,[escSays.getD (yV.idxOf (bt s (i+1))) 0])
   else if bt s (i+1)=mark then some (2,[(bt s (i+1):Int)])
   else if bt s (i+1)=120 then (num s 16 (i+2) 2 0).map fun n=>(4,small n mark)
   else if bt s (i+1)=117∨bt s (i+1)=85 then
    (num s 16 (i+2) (if bt s (i+1)=85 then 8 else 4) 0).bind fun n=>if may n then some (2+(if bt s (i+1)=85 then 8 else 4),formZ n) else none
   else (num s 8 (i+1) 3 0).bind fun n=>if 255<n then none else some (4,small n mark):=by
   unfold esc;rw [if_neg hsh]
  have HE:=Hd hesc
  clear hesc
  have HF:Hid (∀ (tm:Array Value) W x y o,IB w W w.heap.size→esc s i mark=o→itemVal o=.agg #[x,y]→tm.getD 6 undef=.pointer (some ⟨w.heap.size,0,none⟩)→bodyPost Tryz.prog Tryz.f163 Q .ret ⟨tm,[]⟩ ((W.setCell ⟨w.heap.size,0,none⟩ x).setCell ⟨w.heap.size,1,none⟩ y)) :=
   Hd fun tm W x y o hib ho hv ht=>bodyPost_ret (zFj tm _ _ x y ht (hib.fin x y).1) rfl (by rw [← hv];exact HQ.out o _ ho (hib.fin x y).2)
  generalize bt s (i+1)=c at *
  go_enter Tryz.func163,Tryz.ntmps163
  go_wp2_with fail
  go_loopw [10] (fun k wr=>∃ (kk:Nat),kk≤8∧k=.int .i64 kk∧(∀ j,j<kk→yV.getD j 0≠c)∧wr=(w.alloc (.cells #[.int .i64 0,.string ⟨#[]⟩] 195)).alloc (.cells #[.int .u8 7,.int .u8 8,.int .u8 12,.int .u8 10,.int .u8 13,.int .u8 9,.int .u8 11,.int .u8 92] 5)) (fun k _=>8-(intOf k).toNat)
  case atStart=>exact ⟨0,Nat.zero_le _,rfl,fun j hj=>absurd hj (by omega),rfl⟩
  case round =>
   obtain ⟨k,hk,rfl,hno,hwr⟩:=hrel
   have HNO:=Hd hno
   have hib:IB w wr w.heap.size:=by
    rw [hwr]
    refine IB.alloc ⟨Nat.le_refl _,(Below.refl _ _).alloc (Nat.le_refl _) _,_,_,heap_alloc_new _ _⟩ _
   have HIB:=Hd hib
   obtain ⟨cx,cy,cg0,cg1⟩:=hib.c
   have zg0:=hib.fz 0
   have zg1:=hib.fz 1
   have cga0:∀ o:Obj,(wr.alloc o).cell? ⟨w.heap.size,0,none⟩=some cx:=fun o=>by rw [← cg0];exact World.cell?_of_block (Below.heap_alloc _ _ _ hib.lt)
   have cga1:∀ o:Obj,(wr.alloc o).cell? ⟨w.heap.size,1,none⟩=some cy:=fun o=>by rw [← cg1];exact World.cell?_of_block (Below.heap_alloc _ _ _ hib.lt)
   have zga0:∀ o:Obj,(wr.alloc o).frozen? ⟨w.heap.size,0,none⟩=false:=fun o=>(hib.alloc o).fz 0
   have zga1:∀ o:Obj,(wr.alloc o).frozen? ⟨w.heap.size,1,none⟩=false:=fun o=>(hib.alloc o).fz 1
   clear hno hib
   by_cases hlt:k<8
   ·have hk8:(k:Int)<8:=by omega
    have hk0:(0:Int)≤k:=by omega
    have hnm:=zXh k hlt
    have cs:wr.cell? ⟨w.heap.size+1,k,none⟩=some (.int .u8 (escSays.getD k 0)):=by
     rw [hwr,World.cell?_alloc_at _ _ _ _ (by simp)]
     have:∀ k,k<8→(#[Value.int .u8 7,.int .u8 8,.int .u8 12,.int .u8 10,.int .u8 13,.int .u8 9,.int .u8 11,.int .u8 92])[k]?=some (.int .u8 (escSays.getD k 0)):=by
      intro k hk
      match k,hk with
      | 0,_=>rfl | 1,_=>rfl | 2,_=>rfl | 3,_=>rfl | 4,_=>rfl | 5,_=>rfl | 6,_=>rfl | 7,_=>rfl
      | n+8,h=>omega
     exact this k hlt
    have HWR:=Hd hwr
    clear hwr
    by_cases hc:yV.getD k 0=c
    ·have hidx:=zUa c k hlt hc HNO.out
     have hz:esc s i mark=some (2,[escSays.getD k 0]):=by rw [HE.out,hidx,if_pos hlt]
     have HZ:=Hd hz
     rw [hc] at hnm
     have c1:=gW wr _ [escSays.getD k 0] 1 1 rfl rfl
     simp only [List.map_cons,List.map_nil] at c1
     have HI2:=Hd (HIB.out.alloc (.cells #[.int .u8 (escSays.getD k 0)] 5))
     clear hidx hz
     generalize escSays.getD k 0=y at *
     go_wp2_with fail
     exact HF.out _ _ _ _ _ HI2.out HZ.out rfl rfl
    ·have hc':((yV.getD k 0:Nat):Int)≠c:=by omega
     have hno2:∀ j,j<k+1→yV.getD j 0≠c:=fun j hj=>by
      rcases Nat.lt_or_ge j k with h | h
      ·exact HNO.out j h
      ·obtain rfl:j=k:=by omega
       exact hc
     have HN2:=Hd hno2
     clear hno2
     generalize yV.getD k 0=cc at *
     go_wp2_with fail
     refine ⟨?_,(by simp [intOf];try omega)⟩
     exact ⟨k+1,by omega,by go_num,HN2.out,HWR.out⟩
   ·obtain rfl:k=8:=by omega
    have hidx:=zXi c HNO.out
    rw [if_neg hidx] at HE
    clear hidx hwr
    have hfin:∀ W',Below wr.heap.size wr W'→IB w W' w.heap.size:=fun W' hb=>HIB.out.keep hb
    have HFI:=Hd hfin
    clear hfin
    by_cases hcm:c=mark
    ·rw [if_pos hcm] at HE
     have hcm':(c:Int)=mark:=by omega
     have c1:=gW wr _ [(c:Int)] 1 1 rfl rfl
     simp only [List.map_cons,List.map_nil] at c1
     rw [hcm'] at c1 HE
     have HI2:=Hd (HIB.out.alloc (.cells #[.int .u8 (mark:Int)] 5))
     go_wp2_with fail
     exact HF.out _ _ _ _ _ HI2.out HE.out rfl rfl
    ·rw [if_neg hcm] at HE
     have hcm':¬ (c:Int)=mark:=by omega
     by_cases h120:c=120
     ·rw [if_pos h120] at HE
      have h120':(c:Int)=120:=by omega
      have CN:=Hd (zAw s (i+2) 2 16 (Or.inr rfl) (by omega) (by omega) hs wr)
      cases hn:num s 16 (i+2) 2 0 with
      | none =>
       rw [hn] at CN HE
       have CN2:Hid (Calls Tryz.prog 174 #[.string s,.int .i64 (i+2:Nat),.int .i64 2,.int .i64 16] wr fun e w'=>e=.returned (.int .i64 (-1))∧wr=w'):=CN
       clear CN
       go_wp2_with fail
       refine CN2.out.mono ?_;rintro e w' ⟨rfl,rfl⟩
       go_wp2_with fail
       exact HF.out _ _ _ _ _ HIB.out HE.out rfl rfl
      | some n =>
       rw [hn] at CN HE
       have hrg:=xV s 16 (by omega) 2 (i+2) 0 n (by omega) hn
       have hn0:=hrg.1
       have hn256:n<256:=by have:=hrg.2.1;omega
       have CN2:Hid (Calls Tryz.prog 174 #[.string s,.int .i64 (i+2:Nat),.int .i64 2,.int .i64 16] wr fun e w'=>e=.returned (.int .i64 n)∧wr=w'):=CN
       have CS:=Hd (zKh n ⟨hn0,hn256⟩ mark hm wr)
       have hn0':¬ n<0:=by omega
       clear CN hn hrg
       go_wp2_with fail
       refine CN2.out.mono ?_;rintro e w' ⟨rfl,rfl⟩
       go_wp2_with fail
       refine CS.out.mono ?_;rintro e w2 ⟨rfl,hb2⟩
       have hib2:=HFI.out _ hb2
       obtain ⟨dx,dy,dg0,dg1⟩:=hib2.c
       have dz0:=hib2.fz 0
       have dz1:=hib2.fz 1
       have HIB2:=Hd hib2
       clear hib2 hb2
       go_wp2_with fail
       exact HF.out _ _ _ _ _ HIB2.out HE.out rfl rfl
     ·rw [if_neg h120] at HE
      have h120':¬ (c:Int)=120:=by omega
      by_cases h85:c=85
      ·rw [if_pos (Or.inr h85),if_pos h85] at HE
       have h85':(c:Int)=85:=by omega
       have CN:=Hd (zAw s (i+2) 8 16 (Or.inr rfl) (by omega) (by omega) hs wr)
       cases hn:num s 16 (i+2) 8 0 with
       | none =>
        rw [hn] at CN HE
        have CN2:Hid (Calls Tryz.prog 174 #[.string s,.int .i64 (i+2:Nat),.int .i64 8,.int .i64 16] wr fun e w'=>e=.returned (.int .i64 (-1))∧wr=w'):=CN
        clear CN
        go_wp2_with fail
        refine CN2.out.mono ?_;rintro e w' ⟨rfl,rfl⟩
        go_wp2_with fail
        exact HF.out _ _ _ _ _ HIB.out HE.out rfl rfl
       | some n =>
        rw [hn,Option.bind_some] at HE
        rw [hn] at CN
        have hrg:=xV s 16 (by omega) 8 (i+2) 0 n (by omega) hn
        have hn0:=hrg.1
        have CN2:Hid (Calls Tryz.prog 174 #[.string s,.int .i64 (i+2:Nat),.int .i64 8,.int .i64 16] wr fun e w'=>e=.returned (.int .i64 n)∧wr=w'):=CN
        have CM:=Hd (zFz n wr)
        have CS:=Hd (fB n wr)
        have hn0':¬ n<0:=by omega
        clear CN hn hrg
        cases hmay:may n with
        | false =>
         rw [hmay] at CM HE
         rw [if_neg (by simp)] at HE
         clear hmay
         go_wp2_with fail
         refine CN2.out.mono ?_;rintro e w' ⟨rfl,rfl⟩
         go_wp2_with fail
         refine CM.out.mono ?_;rintro e w' ⟨rfl,rfl⟩
         go_wp2_with fail
         exact HF.out _ _ _ _ _ HIB.out HE.out rfl rfl
        | true =>
         rw [hmay] at CM HE
         rw [if_pos rfl] at HE
         clear hmay
         go_wp2_with fail
         refine CN2.out.mono ?_;rintro e w' ⟨rfl,rfl⟩
         go_wp2_with fail
         refine CM.out.mono ?_;rintro e w' ⟨rfl,rfl⟩
         go_wp2_with fail
         refine CS.out.mono ?_;rintro e w2 ⟨rfl,hb2⟩
         have hib2:=HFI.out _ hb2
         obtain ⟨dx,dy,dg0,dg1⟩:=hib2.c
         have dz0:=hib2.fz 0
         have dz1:=hib2.fz 1
         have HIB2:=Hd hib2
         clear hib2 hb2
         go_wp2_with fail
         exact HF.out _ _ _ _ _ HIB2.out HE.out (by unfold form;rfl) rfl
      ·by_cases h117:c=117
       ·rw [if_pos (Or.inl h117),if_neg h85] at HE
        have h117':(c:Int)=117:=by omega
        have CN:=Hd (zAw s (i+2) 4 16 (Or.inr rfl) (by omega) (by omega) hs wr)
        cases hn:num s 16 (i+2) 4 0 with
        | none =>
         rw [hn] at CN HE
         have CN2:Hid (Calls Tryz.prog 174 #[.string s,.int .i64 (i+2:Nat),.int .i64 4,.int .i64 16] wr fun e w'=>e=.returned (.int .i64 (-1))∧wr=w'):=CN
         clear CN
         go_wp2_with fail
         refine CN2.out.mono ?_;rintro e w' ⟨rfl,rfl⟩
         go_wp2_with fail
         exact HF.out _ _ _ _ _ HIB.out HE.out rfl rfl
        | some n =>
         rw [hn,Option.bind_some] at HE
         rw [hn] at CN
         have hrg:=xV s 16 (by omega) 4 (i+2) 0 n (by omega) hn
         have hn0:=hrg.1
         have CN2:Hid (Calls Tryz.prog 174 #[.string s,.int .i64 (i+2:Nat),.int .i64 4,.int .i64 16] wr fun e w'=>e=.returned (.int .i64 n)∧wr=w'):=CN
         have CM:=Hd (zFz n wr)
         have CS:=Hd (fB n wr)
         have hn0':¬ n<0:=by omega
         clear CN hn hrg
         cases hmay:may n with
         | false =>
          rw [hmay] at CM HE
          rw [if_neg (by simp)] at HE
          clear hmay
          go_wp2_with fail
          refine CN2.out.mono ?_;rintro e w' ⟨rfl,rfl⟩
          go_wp2_with fail
          refine CM.out.mono ?_;rintro e w' ⟨rfl,rfl⟩
          go_wp2_with fail
          exact HF.out _ _ _ _ _ HIB.out HE.out rfl rfl
         | true =>
          rw [hmay] at CM HE
          rw [if_pos rfl] at HE
          clear hmay
          go_wp2_with fail
          refine CN2.out.mono ?_;rintro e w' ⟨rfl,rfl⟩
          go_wp2_with fail
          refine CM.out.mono ?_;rintro e w' ⟨rfl,rfl⟩
          go_wp2_with fail
          refine CS.out.mono ?_;rintro e w2 ⟨rfl,hb2⟩
          have hib2:=HFI.out _ hb2
          obtain ⟨dx,dy,dg0,dg1⟩:=hib2.c
          have dz0:=hib2.fz 0
          have dz1:=hib2.fz 1
          have HIB2:=Hd hib2
          clear hib2 hb2
          go_wp2_with fail
          exact HF.out _ _ _ _ _ HIB2.out HE.out (by unfold form;rfl) rfl
       ·rw [if_neg (by omega)] at HE
        have h85':¬ (c:Int)=85:=by omega
        have h117':¬ (c:Int)=117:=by omega
        have b85:((c:Int) == 85)=false:=by rw [beq_eq_false_iff_ne];exact h85'
        have b117:((c:Int) == 117)=false:=by rw [beq_eq_false_iff_ne];exact h117'
        have CN:=Hd (zAw s (i+1) 3 8 (Or.inl rfl) (by omega) (by omega) hs wr)
        cases hn:num s 8 (i+1) 3 0 with
        | none =>
         rw [hn] at CN HE
         have CN2:Hid (Calls Tryz.prog 174 #[.string s,.int .i64 ((i:Int)+1),.int .i64 3,.int .i64 8] wr fun e w'=>e=.returned (.int .i64 (-1))∧wr=w'):=CN
         clear CN
         go_wp2_with fail
         refine CN2.out.mono ?_;rintro e w' ⟨rfl,rfl⟩
         go_wp2_with fail
         exact HF.out _ _ _ _ _ HIB.out HE.out rfl rfl
        | some n =>
         rw [hn,Option.bind_some] at HE
         rw [hn] at CN
         have hrg:=xV s 8 (by omega) 3 (i+1) 0 n (by omega) hn
         have hn0:=hrg.1
         have CN2:Hid (Calls Tryz.prog 174 #[.string s,.int .i64 ((i:Int)+1),.int .i64 3,.int .i64 8] wr fun e w'=>e=.returned (.int .i64 n)∧wr=w'):=CN
         have hn0':¬ n<0:=by omega
         clear CN hn hrg
         by_cases h255:255<n
         ·rw [if_pos h255] at HE
          go_wp2_with fail
          refine CN2.out.mono ?_;rintro e w' ⟨rfl,rfl⟩
          go_wp2_with fail
          exact HF.out _ _ _ _ _ HIB.out HE.out rfl rfl
         ·rw [if_neg h255] at HE
          have CS:=Hd (zKh n ⟨hn0,by omega⟩ mark hm wr)
          go_wp2_with fail
          refine CN2.out.mono ?_;rintro e w' ⟨rfl,rfl⟩
          go_wp2_with fail
          refine CS.out.mono ?_;rintro e w2 ⟨rfl,hb2⟩
          have hib2:=HFI.out _ hb2
          obtain ⟨dx,dy,dg0,dg1⟩:=hib2.c
          have dz0:=hib2.fz 0
          have dz1:=hib2.fz 1
          have HIB2:=Hd hib2
          clear hib2 hb2
          go_wp2_with fail
          exact HF.out _ _ _ _ _ HIB2.out HE.out rfl rfl
end Go.Proofs.YtfalelkfhandfaaGreatDoor
namespace Go.Proofs.YtfalelkfhandfaaGreatDoor
set_option maxRecDepth 100000
set_option maxHeartbeats 32000000
set_option linter.all false
open Go.RowKit
attribute [local irreducible] wpStill

@[irreducible] def ritemPost (s:ByteArray) (i mark:Nat) (w0:World) (e:Ending) (w':World):Prop:=e=.returned (itemVal (item s i mark))∧Below w0.heap.size w0 w'
theorem zDo (tmps:Array Value) (w:World) (g:Nat) (x y:Value) (hp:tmps.getD 6 undef=.pointer (some ⟨g,0,none⟩)) (h0:w.heap[g]?=some (.cells #[x,y] 195 (0,0))) :
  (results Tryz.f146 tmps).run Tryz.prog w=.ok (.agg #[x,y]) w :=
 results_cell_row rfl tmps w g 195 #[x,y] (0,0) _ hp h0 Tryz.underlying195 rfl (by kernel_rfl)
theorem zXj {s:ByteArray} {i mark:Nat} (hm:mark=34∨mark=39) (hi:i<s.size) (h92:bt s i≠92) (h10:bt s i≠10) :
  itemVal (item s i mark)=.agg #[.int .i64 ((if mark=34 then 1 else (rd s i).2:Nat):Int),.string (s.extract i (i+(if mark=34 then 1 else (rd s i).2)))]:=by
 unfold item
 rw [if_neg h92,if_neg h10]
 rcases hm with rfl | rfl
 ·simp only [if_true]
  unfold itemVal
  have e:s.extract i (i+1)=strOfNums [(bt s i:Int)]:=by
   rw [← gZ (s.extract i (i+1))]
   congr 1
   have hz:(s.extract i (i+1)).data.toList=[s.get! i]:=by
    have:=zBb s i 1 (by omega)
    rw [ByteArray.toList_eq] at this
    rw [this];rfl
   unfold nums
   rw [hz];rfl
  rw [e]
 ·have e39:¬ (39=34):=by decide
  simp only [e39,if_false]
  by_cases h0:(rd s i).2=0
  ·rw [if_pos h0,h0]
   unfold itemVal
   have e:s.extract i (i+0)=⟨#[]⟩:=by
    apply ByteArray.ext
    simp
   rw [e];rfl
  ·rw [if_neg h0]
   unfold itemVal
   simp only [gZ]
theorem zOk (s:ByteArray) (i mark:Nat) (hm:mark=34∨mark=39) (hi:i<s.size) (hs:s.size≤140737488351232) (w:World) :
  Calls Tryz.prog 146 #[.string s,.int .i64 i,.int .u8 mark] w (ritemPost s i mark w):=by
 have hHF:∀ (tm:Array Value) W x y,IB w W w.heap.size→itemVal (item s i mark)=.agg #[x,y]→tm.getD 6 undef=.pointer (some ⟨w.heap.size,0,none⟩)→bodyPost Tryz.prog Tryz.f146 (ritemPost s i mark w) .ret ⟨tm,[]⟩ ((W.setCell ⟨w.heap.size,0,none⟩ x).setCell ⟨w.heap.size,1,none⟩ y) :=
  fun tm W x y hib hv ht=>bodyPost_ret (zDo tm _ _ x y ht (hib.fin x y).1) rfl (by unfold ritemPost;rw [hv];exact ⟨rfl,(hib.fin x y).2⟩)
 have hHF0:∀ (tm:Array Value) x y,itemVal (item s i mark)=.agg #[x,y]→tm.getD 6 undef=.pointer (some ⟨w.heap.size,0,none⟩)→bodyPost Tryz.prog Tryz.f146 (ritemPost s i mark w) .ret ⟨tm,[]⟩ (w.alloc (.cells #[x,y] 195)) :=
  fun tm x y hv ht=>bodyPost_ret (zDo tm _ w.heap.size x y ht (heap_alloc_new _ _)) rfl (by unfold ritemPost;rw [hv];exact ⟨rfl,(Below.refl _ _).alloc (Nat.le_refl _) _⟩)
 have HF:=Hd hHF
 have HF0:=Hd hHF0
 clear hHF hHF0
 generalize ritemPost s i mark w=Q at *
 have hi':(i:Int)<s.size:=by omega
 have hi0:(0:Int)≤i:=by omega
 have hbl:=xR s i
 have hxx:∀ h,((s[i]'h).toNat:Int)=(bt s i:Int):=fun h=>by rw [yH s i h]
 have HIE:=Hd (fun (h:bt s i=92)=>(show item s i mark=esc s i mark by unfold item;rw [if_pos h]))
 have HIN:=Hd (fun (h92:bt s i≠92) (h10:bt s i=10)=>(show item s i mark=none by unfold item;rw [if_neg h92,if_pos h10]))
 have HIC:=Hd (fun (h92:bt s i≠92) (h10:bt s i≠10)=>zXj hm hi h92 h10)
 generalize bt s i=c at *
 have hib0:IB w (w.alloc (.cells #[.int .i64 0,.string ⟨#[]⟩] 195)) w.heap.size:=⟨Nat.le_refl _,(Below.refl _ _).alloc (Nat.le_refl _) _,_,_,heap_alloc_new _ _⟩
 have HIB:=Hd hib0
 clear hib0
 by_cases h92:c=92
 ·have h92':(c:Int)=92:=by omega
  have CE:=Hd (zQv s i mark hm hi hs (w.alloc (.cells #[.int .i64 0,.string ⟨#[]⟩] 195)))
  have hz:=HIE.out h92
  have HZ:=Hd hz
  clear hz
  have hsv:∃ (x:Int) (y:ByteArray),itemVal (esc s i mark)=.agg #[.int .i64 x,.string y]:=by
   cases esc s i mark with
   | none=>exact ⟨_,_,rfl⟩
   | some q=>exact ⟨_,_,rfl⟩
  obtain ⟨x,y,hsv⟩:=hsv
  have HSV:=Hd hsv
  clear hsv
  go_enter Tryz.func146,Tryz.ntmps146
  go_wp2_with fail
  refine CE.out.mono ?_
  intro e w2 h2
  unfold rescPost at h2
  obtain ⟨rfl,hb2⟩:=h2
  have hib2:=HIB.out.keep hb2
  obtain ⟨dx,dy,dg0,dg1⟩:=hib2.c
  have dz0:=hib2.fz 0
  have dz1:=hib2.fz 1
  have HIB2:=Hd hib2
  clear hib2 hb2
  rw [HSV.out]
  go_wp2_with fail
  exact HF.out _ _ _ _ HIB2.out (by rw [HZ.out,HSV.out]) rfl
 ·have h92':¬ (c:Int)=92:=by omega
  by_cases h10:c=10
  ·have h10':(c:Int)=10:=by omega
   have hz:=HIN.out h92 h10
   have HZ:=Hd hz
   clear hz
   go_enter Tryz.func146,Tryz.ntmps146
   go_wp2_with fail
   exact HF0.out _ _ _ (by rw [HZ.out];rfl) rfl
  ·have h10':¬ (c:Int)=10:=by omega
   have hz:=HIC.out h92 h10
   have HZ:=Hd hz
   clear hz HIC HIN HIE
   rcases hm with rfl | rfl
   ·have hsl:∀ w,(Instr.slice 9 (.string s) (some (.int .i64 (i:Int))) (some (.int .i64 ((i:Int)+1))) none).run Tryz.prog w=.ok (.string (s.extract i (i+1))) w:=fun w=>by
     rw [run_slice_string_if w _ s _ _ _ _ Tryz.underlying9,if_pos (by omega),if_pos (by omega)]
     rfl
    have hw1:IntKind.i64.wrap ((i:Int)+1)=(i:Int)+1:=wI (by omega)
    have hb1:(i:Int)+1≤s.size:=by omega
    have hb2:(0:Int)≤(i:Int)+1:=by omega
    have hb3:(i:Int)≤(i:Int)+1:=by omega
    have hz2:itemVal (item s i 34)=.agg #[.int .i64 1,.string (s.extract i (i+1))]:=HZ.out
    have HZ2:=Hd hz2
    clear hz2 HZ
    generalize s.extract i (i+1)=x at *
    go_enter Tryz.func146,Tryz.ntmps146
    go_wp2_with fail
    exact HF0.out _ _ _ HZ2.out rfl
   ·have hrd:=zAh s i
    have hle:i+(rd s i).2≤s.size:=by omega
    have CR:=Hd (fun w=>zHu s i w (by omega))
    have hz2:itemVal (item s i 39)=.agg #[.int .i64 (rd s i).2,.string (s.extract i (i+(rd s i).2))]:=HZ.out
    have HZ2:=Hd hz2
    clear hz2 HZ
    rw [xC] at CR
    generalize (rd s i).2=n at *
    generalize (rd s i).1=r at *
    have hsl:∀ w,(Instr.slice 9 (.string s) (some (.int .i64 (i:Int))) (some (.int .i64 ((i:Int)+n))) none).run Tryz.prog w=.ok (.string (s.extract i (i+n))) w:=fun w=>by
     rw [run_slice_string_if w _ s _ _ _ _ Tryz.underlying9,if_pos (by omega),if_pos (by omega)]
     rfl
    have hw1:IntKind.i64.wrap ((i:Int)+n)=(i:Int)+n:=wI (by omega)
    have hb1:(i:Int)+n≤s.size:=by omega
    have hb2:(0:Int)≤(i:Int)+n:=by omega
    have hb3:(i:Int)≤(i:Int)+n:=by omega
    generalize s.extract i (i+n)=x at *
    go_enter Tryz.func146,Tryz.ntmps146
    go_wp2_with fail
    refine (CR.out _).mono ?_
    rintro e w2 ⟨rfl,hb2⟩
    have hib2:=HIB.out.keep hb2
    obtain ⟨dx,dy,dg0,dg1⟩:=hib2.c
    have dz0:=hib2.fz 0
    have dz1:=hib2.fz 1
    have HIB2:=Hd hib2
    clear hib2 hb2
    go_wp2_with fail
    exact HF.out _ _ _ _ HIB2.out HZ2.out rfl
end Go.Proofs.YtfalelkfhandfaaGreatDoor
namespace Go.Proofs.YtfalelkfhandfaaGreatDoor
set_option maxRecDepth 100000
set_option maxHeartbeats 32000000
set_option linter.all false
open Go.RowKit
attribute [local irreducible] wpStill

theorem zIa (r:Int):∀ x∈formZ r,0≤x∧x<256:=by
 have h:=zKd (form r)
 rwa [zKa] at h
theorem zIb (n:Int) (mark:Nat) (h:0≤n∧n<256):∀ x∈small n mark,0≤x∧x<256:=by
 unfold small
 split
 ·intro x hx;simp at hx;omega
 ·exact zIa n
theorem zKi {s:ByteArray} {i mark n:Nat} {l:List Int} (h:item s i mark=some (n,l)):∀ x∈l,0≤x∧x<256:=by
 have hb:=xR s (i+1)
 have hb0:=xR s i
 unfold item at h
 split at h
 ·unfold esc at h
  split at h
  ·cases h
  ·split at h
   ·rename_i hk
    cases h
    have:∀ k,k<8→0≤escSays.getD k 0∧escSays.getD k 0<256:=by decide +kernel
    intro x hx
    simp only [List.mem_singleton] at hx
    subst hx
    exact this _ hk
   ·split at h
    ·cases h;intro x hx;simp only [List.mem_singleton] at hx;omega
    ·split at h
     ·cases hn:num s 16 (i+2) 2 0 with
      | none=>rw [hn] at h;cases h
      | some v =>
       rw [hn] at h
       have:=xV s 16 (by omega) 2 (i+2) 0 v (by omega) hn
       cases h
       exact zIb _ _ ⟨this.1,by have:=this.2.1;omega⟩
     ·split at h
      ·cases hn:num s 16 (i+2) (if bt s (i+1)=85 then 8 else 4) 0 with
       | none=>rw [hn] at h;cases h
       | some v =>
        rw [hn] at h
        simp only [Option.bind_some] at h
        split at h
        ·cases h;exact zIa v
        ·cases h
      ·cases hn:num s 8 (i+1) 3 0 with
       | none=>rw [hn] at h;cases h
       | some v =>
        rw [hn] at h
        have:=xV s 8 (by omega) 3 (i+1) 0 v (by omega) hn
        simp only [Option.bind_some] at h
        split at h
        ·cases h
        ·cases h;exact zIb _ _ ⟨this.1,by omega⟩
 ·split at h
  ·cases h
  ·split at h
   ·cases h;intro x hx;simp only [List.mem_singleton] at hx;omega
   ·split at h
    ·cases h
    ·cases h;exact zKd _
theorem zOl (s:ByteArray) (k:Nat) (h:k<s.size):(nums s)[k]?=some ((s[k]'h).toNat:Int):=by
 have hl:k<s.data.toList.length:=by rw [← xB];exact h
 unfold nums
 rw [List.getElem?_map,List.getElem?_eq_getElem hl]
 rfl
theorem zKj {w:World} {B g:Nat} {v:Value} {n:Nat} {xs:List Value} {ca:Array Value} {fr:Nat×Nat} (h:w.ownsRow B 5 1 v n xs) (hg:w.heap[g]?=some (.cells ca 195 fr)):v.ownBlock≠some g:=by
 rcases h.2 with ⟨rfl,_⟩ | ⟨g',cap,cur,rfl,_,hh,_⟩
 ·simp [Value.ownBlock]
 ·simp only [Value.ownBlock,ne_eq,Option.some.injEq]
  rintro rfl
  rw [hh] at hg
  simp at hg
@[irreducible] def zU (s:ByteArray) (at':Int) (w0:World) (e:Ending) (w':World):Prop :=
 e=.returned (begunVals (begun s at'))∧Below w0.heap.size w0 w'
theorem zOm (s:ByteArray) (i:Nat) (hi:i<s.size) (hm:bt s i=34) (hs:s.size≤2147483647) (w:World) :
  Calls Tryz.prog 127 #[.string s,.int .i64 i] w (zU s i w):=by
 have HQN:Hid (∀ w',body s (i+1)=none→Below w.heap.size w w'→zU s i w (.returned (.tuple #[.int .u8 0,.int .i64 0,.string ⟨#[]⟩,.int .i64 4])) w'):=Hd fun w' h1 h2=>by
  unfold zU;rw [zHt hi hm,h1];exact ⟨rfl,h2⟩
 have HQS:Hid (∀ (j:Nat) l w',body s (i+1)=some (j,l)→Below w.heap.size w w'→zU s i w (.returned (.tuple #[.int .u8 7,.int .i64 j,.string (strOfNums l),.int .i64 0])) w'):=Hd fun j l w' h1 h2=>by
  unfold zU;rw [zHt hi hm,h1];exact ⟨rfl,h2⟩
 generalize zU s i w=Q at *
 have hi':(i:Int)<s.size:=by omega
 have hi0:(0:Int)≤i:=by omega
 have hxx:∀ h,((s[i]'h).toNat:Int)=34:=fun h=>by rw [yH s i h,hm];rfl
 have hw1:IntKind.i64.wrap ((i:Int)+1)=((i+1:Nat):Int):=wI (by omega)
 go_enter Tryz.func127,Tryz.ntmps127
 go_wp2_with fail
 go_loopw [9,10] (fun v k wr=>∃ (j:Nat) (l:List Int),k=.int .i64 j∧j≤s.size∧i+1≤j∧l.length≤j∧Below w.heap.size w wr∧wr.ownsRow w.heap.size 5 1 v l.length (l.map (Value.int .u8))∧body s (i+1)=(body s j).map fun p=>(p.1,l++p.2)) (fun _ k _=>s.size-(intOf k).toNat)
 case atStart=>exact ⟨i+1,[],rfl,by omega,by omega,by simp,Below.refl _ _,World.ownsRow_nil _ _ _ _,by cases body s (i+1) <;> simp⟩
 case round =>
  obtain ⟨j,l,rfl,hj,hij,hl,hb,hown,hz⟩:=hrel
  have HB:=Hd hb
  have HO:=Hd hown
  have HZ:=Hd hz
  obtain ⟨va,vm,vc,rfl⟩:=zL HO.out
  clear hb hown hz
  by_cases hp:j<s.size
  ·have hp':(j:Int)<s.size:=by omega
   have hj0:(0:Int)≤j:=by omega
   have hbl:=xR s j
   have hyy:∀ h,((s[j]'h).toNat:Int)=(bt s j:Int):=fun h=>by rw [yH s j h]
   by_cases hc:bt s j=34
   ·have hcc:(bt s j:Int)=34:=by omega
    have hz2:body s (i+1)=some (j+1,l):=by rw [HZ.out,zTn hp hc];simp
    have HZ2:=Hd hz2
    have hwj:IntKind.i64.wrap ((j:Int)+1)=((j+1:Nat):Int):=wI (by omega)
    have hcv:∀ n,(convert 145 9 (.slice va vm vc)).run Tryz.prog (wr.drewN n)=.ok (.string (strOfNums l)) (wr.drewN n):=fun n=>zAo (w:=wr.drewN n) HO.out
    have HBN:Hid (∀ n,Below w.heap.size w (wr.drewN n)):=Hd fun n=>bdrewN HB.out n
    clear hz2
    generalize bt s j=c at *
    go_wp2_with fail
    go_quiet (fail)
    go_wp2_with fail
    refine bodyPost_ret (zY rfl _ _ _) rfl ?_
    exact HQS.out _ _ _ HZ2.out (HBN.out _)
   ·have hcc:¬ (bt s j:Int)=34:=by omega
    have hz2:=zTo hp hc
    have HZ2:=Hd hz2
    have CT:=Hd (zOk s j 34 (Or.inl rfl) hp (by omega) wr)
    have hlenn:∀ n x,item s j 34=some (n,x)→1≤n∧j+n≤s.size∧x.length≤n∧nums (strOfNums x)=x:=fun n x h=>⟨(zAc hp h).1,(zAc hp h).2,zHr h,fA x (zKi h)⟩
    have HL:=Hd hlenn
    clear hz2 hlenn
    generalize bt s j=c at *
    go_wp2_with fail
    refine CT.out.mono ?_
    intro e w1 h1
    unfold ritemPost at h1
    obtain ⟨rfl,hb1⟩:=h1
    have HB1:=Hd (zB HB.out hb1)
    cases hit:item s j 34 with
    | none =>
     have HB2:=Hd (HB1.out.alloc HB1.out.size (.cells #[.int .i64 0,.string ⟨#[]⟩] 195))
     have HN:Hid (body s (i+1)=none):=Hd (by rw [HZ.out,HZ2.out,hit];rfl)
     unfold itemVal
     go_wp2_with fail
     refine bodyPost_ret (zY rfl _ _ _) rfl ?_
     exact HQN.out _ HN.out HB2.out
    | some q =>
     obtain ⟨n,x⟩:=q
     obtain ⟨hn1,hn2,hn3,hnx⟩:=HL.out n x hit
     rw [hit,Option.bind_some] at HZ2
     have HNX:=Hd hnx
     have hsz:(strOfNums x).size=x.length:=strOfNums_size x
     have HO1:=Hd ((zS HO.out hb1).alloc (.cells #[.int .i64 n,.string (strOfNums x)] 195))
     have HB2:=Hd (HB1.out.alloc HB1.out.size (.cells #[.int .i64 n,.string (strOfNums x)] 195))
     have HG:=Hd (heap_alloc_new w1 (.cells #[.int .i64 n,.string (strOfNums x)] 195))
     have hiv:itemVal (some (n,x))=.agg #[.int .i64 n,.string (strOfNums x)]:=rfl
     rw [hiv]
     clear hit hnx hb1 HL hiv
     generalize strOfNums x=sx at *
     have hn0:¬ (n:Int)=0:=by omega
     have hn0b:((n:Int) == 0)=false:=by rw [beq_eq_false_iff_ne];exact hn0
     go_wp2_with fail
     generalize hWW:w1.alloc (.cells #[.int .i64 n,.string sx] 195)=w2 at *
     generalize hgx:w1.heap.size=gx at *
     have HO2:=Hd HO1.out
     go_loopw [9,12] (fun v k wr=>∃ (kk:Nat),k=.int .i64 kk∧kk≤x.length∧Below w.heap.size w wr∧wr.ownsRow w.heap.size 5 1 v (l++x.take kk).length ((l++x.take kk).map (Value.int .u8))∧wr.heap[gx]?=some (.cells #[.int .i64 n,.string sx] 195 (0,0))) (fun _ k _=>x.length-(intOf k).toNat)
     case atStart=>exact ⟨0,rfl,Nat.zero_le _,HB2.out,by simpa using HO2.out,HG.out⟩
     case round =>
      obtain ⟨kk,rfl,hkk,hb3,hown3,hg3⟩:=hrel
      have HB3:=Hd hb3
      have HO3:=Hd hown3
      have HG3:=Hd hg3
      have cg0:wr.cell? ⟨gx,0,none⟩=some (.int .i64 n):=by simp [World.cell?,hg3]
      have cg1:wr.cell? ⟨gx,1,none⟩=some (.string sx):=by simp [World.cell?,hg3]
      have hbase:=hb3.size
      have hltk:(x.take kk).length≤kk:=List.length_take_le _ _
      have hlen3:(l++x.take kk).length≤s.size+4294967296:=by rw [List.length_append];omega
      obtain ⟨va3,vm3,vc3,rfl⟩:=zL HO3.out
      clear hb3 hown3 hg3
      generalize hlk:l++x.take kk=lk at *
      by_cases hlt:kk<x.length
      ·have hlt2:kk<sx.size:=by omega
       have hlt':(kk:Int)<sx.size:=by omega
       have hk0:(0:Int)≤kk:=by omega
       have hwk:IntKind.i64.wrap ((kk:Int)+1)=((kk+1:Nat):Int):=wI (by omega)
       have hxk:∀ h,((sx[kk]'h).toNat:Int)=x[kk]:=fun h=>by
        have e1:(nums sx)[kk]?=some (x[kk]):=by rw [HNX.out];exact List.getElem?_eq_getElem hlt
        rw [zOl sx kk hlt2] at e1
        exact Option.some.inj e1
       have htk:=List.take_succ_eq_append_getElem hlt
       have HTK:=Hd htk
       generalize hxe:x[kk]=y at *
       have HXE:=Hd hxe
       clear hxe htk
       go_wp2_with (at_builtin;refine yR wr #[.int .u8 y] _ rfl _ _ 145 5 rfl Tryz.underlying145 w.heap.size kN rfl (by decide) _ _ _ rfl HO3.out 1 1 rfl rfl (by decide) (by intro u hu;simp at hu;subst hu;rfl) (by omega) (by omega) hbase ?_)
       intro v' w' hown hgr _
       have hb4:=vZ HB3.out hbase HO3.out hgr
       have hg4:w'.heap[gx]?=some (.cells #[.int .i64 n,.string sx] 195 (0,0)):=by
        have hne:=zKj HO3.out HG3.out
        have hlt:=zP HG3.out
        rw [hgr.block gx (by simp;omega) (fun e=>hne e.symm),Below.heap_alloc _ _ _ hlt]
        exact HG3.out
       have HO4:=Hd hown
       have HB4:=Hd hb4
       have HG4:=Hd hg4
       clear hown hb4 hgr hg4
       go_wp2_with fail
       refine ⟨?_,(by simp [intOf];try omega)⟩
       exact ⟨kk+1,by go_num,by omega,HB4.out,by rw [HTK.out,← List.append_assoc,hlk,List.length_append,List.map_append];exact HO4.out,HG4.out⟩
      ·have hkx:kk=x.length:=by omega
       have hlt':¬ (kk:Int)<sx.size:=by omega
       have hwn:IntKind.i64.wrap ((j:Int)+n)=((j+n:Nat):Int):=wI (by omega)
       have hz4:body s (i+1)=(body s (j+n)).map fun p=>(p.1,(l++x)++p.2):=by
        rw [HZ.out,HZ2.out]
        cases body s (j+n) <;> simp
       have HZ4:=Hd hz4
       have hlen4:(l++x).length≤j+n:=by rw [List.length_append];omega
       have etk:x.take kk=x:=List.take_of_length_le (by omega)
       rw [etk] at hlk
       subst hlk
       clear hz4
       go_wp2_with fail
       refine ⟨?_,(by simp [intOf];try omega)⟩
       repeat apply Exists.intro
       refine ⟨?_,rfl,rfl,rfl,rfl,rfl,rfl⟩
       exact ⟨j+n,by go_num,hn2,by omega,l++x,hlen4,HB3.out,HO3.out,HZ4.out⟩
  ·have hp':¬ (j:Int)<s.size:=by omega
   have HN:Hid (body s (i+1)=none):=Hd (by rw [HZ.out,zWr hp];rfl)
   go_wp2_with fail
   refine bodyPost_ret (zY rfl _ _ _) rfl ?_
   exact HQN.out _ HN.out HB.out
end Go.Proofs.YtfalelkfhandfaaGreatDoor
namespace Go.Proofs.YtfalelkfhandfaaGreatDoor
set_option maxRecDepth 100000
set_option maxHeartbeats 32000000
set_option linter.all false
open Go.RowKit
attribute [local irreducible] wpStill

def rawInv (s:ByteArray) (i:Nat) (w:World) (v k:Value) (wr:World):Prop :=
 ∃ (j:Nat) (l:List Int),k=.int .i64 j∧j≤s.size∧i+1≤j∧l.length≤j∧Below w.heap.size w wr∧wr.ownsRow w.heap.size 5 1 v l.length (l.map (Value.int .u8))∧raw s (i+1)=(raw s j).map fun p=>(p.1,l++p.2)
theorem zOn (s:ByteArray) (i:Nat) (hi:i<s.size) (hm:bt s i=96) (hs:s.size≤2147483647) (w:World) :
  Calls Tryz.prog 127 #[.string s,.int .i64 i] w (zU s i w):=by
 have HQN:Hid (∀ w',raw s (i+1)=none→Below w.heap.size w w'→zU s i w (.returned (.tuple #[.int .u8 0,.int .i64 0,.string ⟨#[]⟩,.int .i64 4])) w'):=Hd fun w' h1 h2=>by
  unfold zU;rw [zEl hi hm,h1];exact ⟨rfl,h2⟩
 have HQS:Hid (∀ (j:Nat) l w',raw s (i+1)=some (j,l)→Below w.heap.size w w'→zU s i w (.returned (.tuple #[.int .u8 7,.int .i64 j,.string (strOfNums l),.int .i64 0])) w'):=Hd fun j l w' h1 h2=>by
  unfold zU;rw [zEl hi hm,h1];exact ⟨rfl,h2⟩
 generalize zU s i w=Q at *
 have hi':(i:Int)<s.size:=by omega
 have hi0:(0:Int)≤i:=by omega
 have hxx:∀ h,((s[i]'h).toNat:Int)=96:=fun h=>by rw [yH s i h,hm];rfl
 have hw1:IntKind.i64.wrap ((i:Int)+1)=((i+1:Nat):Int):=wI (by omega)
 have hnn1:¬ s.size≤i:=by omega
 have hnn2:¬ (i:Int)<0:=by omega
 go_enter Tryz.func127,Tryz.ntmps127
 go_wp2_with fail
 go_loopw [9,10] (fun v k wr=>rawInv s i w v k wr) (fun _ k _=>s.size-(intOf k).toNat)
 case atStart=>exact ⟨i+1,[],rfl,by omega,by omega,by simp,Below.refl _ _,World.ownsRow_nil _ _ _ _,by cases raw s (i+1) <;> simp⟩
 case round =>
  obtain ⟨j,l,rfl,hj,hij,hl,hb,hown,hz⟩:=hrel
  have HB:=Hd hb
  have HO:=Hd hown
  have HZ:=Hd hz
  have hbase:=hb.size
  obtain ⟨va,vm,vc,rfl⟩:=zL HO.out
  clear hb hown hz
  by_cases hp:j<s.size
  ·have hp':(j:Int)<s.size:=by omega
   have hj0:(0:Int)≤j:=by omega
   have hbl:=xR s j
   have hyy:∀ h,((s[j]'h).toNat:Int)=(bt s j:Int):=fun h=>by rw [yH s j h]
   have hwj:IntKind.i64.wrap ((j:Int)+1)=((j+1:Nat):Int):=wI (by omega)
   by_cases hc:bt s j=96
   ·have hcc:(bt s j:Int)=96:=by omega
    have hz2:raw s (i+1)=some (j+1,l):=by rw [HZ.out,zWs hp hc];simp
    have HZ2:=Hd hz2
    have hcv:∀ n,(convert 145 9 (.slice va vm vc)).run Tryz.prog (wr.drewN n)=.ok (.string (strOfNums l)) (wr.drewN n):=fun n=>zAo (w:=wr.drewN n) HO.out
    have HBN:Hid (∀ n,Below w.heap.size w (wr.drewN n)):=Hd fun n=>bdrewN HB.out n
    clear hz2
    generalize bt s j=c at *
    go_wp2_with fail
    go_quiet (fail)
    go_wp2_with fail
    refine bodyPost_ret (zY rfl _ _ _) rfl ?_
    exact HQS.out _ _ _ HZ2.out (HBN.out _)
   ·have hcc:¬ (bt s j:Int)=96:=by omega
    have hcb:((bt s j:Int) == 96)=false:=by rw [beq_eq_false_iff_ne];exact hcc
    have hz2:=zWt hp hc
    have HZ2:=Hd hz2
    clear hz2
    by_cases h13:bt s j=13
    ·have h13':(bt s j:Int)=13:=by omega
     rw [if_pos h13] at HZ2
     have HR:Hid (rawInv s i w (.slice va vm vc) (.int .i64 (j+1:Nat)) wr):=Hd ⟨j+1,l,rfl,by omega,by omega,by omega,HB.out,HO.out,by rw [HZ.out,HZ2.out];cases raw s (j+1) <;> simp⟩
     generalize bt s j=c at *
     go_wp2_with fail
     refine ⟨?_,(by simp [intOf];try omega)⟩
     first
      | exact HR.out
      | (repeat apply Exists.intro
         refine ⟨?_,rfl⟩
         exact HR.out)
    ·have h13':¬ (bt s j:Int)=13:=by omega
     have h13b:((bt s j:Int) == 13)=false:=by rw [beq_eq_false_iff_ne];exact h13'
     rw [if_neg h13] at HZ2
     have hz5:raw s (i+1)=(raw s (j+1)).map fun p=>(p.1,(l++[(bt s j:Int)])++p.2):=by rw [HZ.out,HZ2.out];cases raw s (j+1) <;> simp
     have HZ5:=Hd hz5
     clear hz5 HZ2
     generalize bt s j=c at *
     go_wp2_with (at_builtin;refine yR wr #[.int .u8 (c:Int)] _ rfl _ _ 145 5 rfl Tryz.underlying145 w.heap.size kN rfl (by decide) _ _ _ rfl HO.out 1 1 rfl rfl (by decide) (by intro u hu;simp at hu;subst hu;rfl) (by omega) (by omega) hbase ?_)
     intro v' w' hown hgr _
     have hb4:=vZ HB.out hbase HO.out hgr
     have HR:Hid (rawInv s i w v' (.int .i64 (j+1:Nat)) w'):=Hd ⟨j+1,l++[(c:Int)],rfl,by omega,by omega,by rw [List.length_append];simp;omega,hb4,by rw [List.length_append,List.map_append];exact hown,HZ5.out⟩
     clear hb4 hown hgr
     go_wp2_with fail
     refine ⟨?_,(by simp [intOf];try omega)⟩
     first
      | exact HR.out
      | (repeat apply Exists.intro
         refine ⟨?_,rfl⟩
         exact HR.out)
  ·have hp':¬ (j:Int)<s.size:=by omega
   have HN:Hid (raw s (i+1)=none):=Hd (by rw [HZ.out,zZw hp];rfl)
   go_wp2_with fail
   refine bodyPost_ret (zY rfl _ _ _) rfl ?_
   exact HQN.out _ HN.out HB.out
end Go.Proofs.YtfalelkfhandfaaGreatDoor
namespace Go.Proofs.YtfalelkfhandfaaGreatDoor
set_option maxRecDepth 100000
set_option maxHeartbeats 32000000
set_option linter.all false
open Go.RowKit
attribute [local irreducible] wpStill

theorem zOo (s:ByteArray) (i:Nat) (hi:i<s.size) (hm:bt s i=39) (hs:s.size≤2147483647) (w:World) :
  Calls Tryz.prog 127 #[.string s,.int .i64 i] w (zU s i w):=by
 have HQN:Hid (∀ w',single s (i+1)=none→Below w.heap.size w w'→zU s i w (.returned (.tuple #[.int .u8 0,.int .i64 0,.string ⟨#[]⟩,.int .i64 4])) w'):=Hd fun w' h1 h2=>by
  unfold zU;rw [zDl hi hm,h1];exact ⟨rfl,h2⟩
 have HQS:Hid (∀ (j:Nat) l w',single s (i+1)=some (j,l)→Below w.heap.size w w'→zU s i w (.returned (.tuple #[.int .u8 6,.int .i64 j,.string (strOfNums l),.int .i64 0])) w'):=Hd fun j l w' h1 h2=>by
  unfold zU;rw [zDl hi hm,h1];exact ⟨rfl,h2⟩
 generalize zU s i w=Q at *
 have hi':(i:Int)<s.size:=by omega
 have hi0:(0:Int)≤i:=by omega
 have hxx:∀ h,((s[i]'h).toNat:Int)=39:=fun h=>by rw [yH s i h,hm];rfl
 have hw1:IntKind.i64.wrap ((i:Int)+1)=((i+1:Nat):Int):=wI (by omega)
 have hnn1:¬ s.size≤i:=by omega
 have hnn2:¬ (i:Int)<0:=by omega
 go_enter Tryz.func127,Tryz.ntmps127
 go_wp2_with fail
 go_loopw [9,10] (fun v k wr=>∃ j:Nat,j=i+1∧v=.slice none 0 0∧k=.int .i64 j∧wr=w) (fun _ k _=>s.size-(intOf k).toNat)
 case atStart=>exact ⟨i+1,rfl,rfl,rfl,rfl⟩
 case round =>
  obtain ⟨j,hji,rfl,rfl,hwr⟩:=hrel
  subst hwr
  rename World=>w0
  rw [← hji] at HQN HQS hw1
  have HJI:=Hd hji
  clear hji
  by_cases hp:j<s.size
  ·have hp':(j:Int)<s.size:=by omega
   have hj0:(0:Int)≤j:=by omega
   have hbl:=xR s j
   have hyy:∀ h,((s[j]'h).toNat:Int)=(bt s j:Int):=fun h=>by rw [yH s j h]
   by_cases hc:bt s j=39
   ·have hcc:(bt s j:Int)=39:=by omega
    have HN:=Hd (zOc hp hc)
    generalize bt s j=c at *
    go_wp2_with fail
    refine bodyPost_ret (zY rfl _ _ _) rfl ?_
    exact HQN.out _ HN.out (Below.refl _ _)
   ·have hcc:¬ (bt s j:Int)=39:=by omega
    have hcb:((bt s j:Int) == 39)=false:=by rw [beq_eq_false_iff_ne];exact hcc
    have HS0:=Hd (fun hit=>zOd (s:=s) (i:=j) hp hc hit)
    have HS1:=Hd (fun n l hit=>zOe (s:=s) (i:=j) (n:=n) (l:=l) hp hc hit)
    have CT:=Hd (zOk s j 39 (Or.inr rfl) hp (by omega) w0)
    have hlenn:∀ n x,item s j 39=some (n,x)→1≤n∧j+n≤s.size∧x.length≤n∧nums (strOfNums x)=x:=fun n x h=>⟨(zAc hp h).1,(zAc hp h).2,zHr h,fA x (zKi h)⟩
    have HL:=Hd hlenn
    clear hlenn
    generalize bt s j=c at *
    go_wp2_with fail
    refine CT.out.mono ?_
    intro e w1 hh1
    unfold ritemPost at hh1
    obtain ⟨rfl,hb1⟩:=hh1
    have HB1:=Hd hb1
    clear hb1
    cases hit:item s j 39 with
    | none =>
     have HB2:=Hd (HB1.out.alloc HB1.out.size (.cells #[.int .i64 0,.string ⟨#[]⟩] 195))
     have HN:=Hd (HS0.out hit)
     unfold itemVal
     go_wp2_with fail
     refine bodyPost_ret (zY rfl _ _ _) rfl ?_
     exact HQN.out _ HN.out HB2.out
    | some q =>
     obtain ⟨n,x⟩:=q
     obtain ⟨hn1,hn2,hn3,hnx⟩:=HL.out n x hit
     have HNX:=Hd hnx
     have HS2:=Hd (HS1.out n x hit)
     have hsz:(strOfNums x).size=x.length:=strOfNums_size x
     have HB2:=Hd (HB1.out.alloc HB1.out.size (.cells #[.int .i64 n,.string (strOfNums x)] 195))
     have HG:=Hd (heap_alloc_new w1 (.cells #[.int .i64 n,.string (strOfNums x)] 195))
     have hiv:itemVal (some (n,x))=.agg #[.int .i64 n,.string (strOfNums x)]:=rfl
     rw [hiv]
     clear hit hnx HL hiv HS0 HS1
     generalize strOfNums x=sx at *
     have hn0:¬ (n:Int)=0:=by omega
     have hn0b:((n:Int) == 0)=false:=by rw [beq_eq_false_iff_ne];exact hn0
     go_wp2_with fail
     generalize hWW:w1.alloc (.cells #[.int .i64 n,.string sx] 195)=w2 at *
     generalize hgx:w1.heap.size=gx at *
     go_loopw [9,12] (fun v k wr=>∃ (kk:Nat),k=.int .i64 kk∧kk≤x.length∧Below w0.heap.size w0 wr∧wr.ownsRow w0.heap.size 5 1 v (x.take kk).length ((x.take kk).map (Value.int .u8))∧wr.heap[gx]?=some (.cells #[.int .i64 n,.string sx] 195 (0,0))) (fun _ k _=>x.length-(intOf k).toNat)
     case atStart=>exact ⟨0,rfl,Nat.zero_le _,HB2.out,World.ownsRow_nil _ _ _ _,HG.out⟩
     case round =>
      obtain ⟨kk,rfl,hkk,hb3,hown3,hg3⟩:=hrel
      have HB3:=Hd hb3
      have HO3:=Hd hown3
      have HG3:=Hd hg3
      have cg0:wr.cell? ⟨gx,0,none⟩=some (.int .i64 n):=by simp [World.cell?,hg3]
      have cg1:wr.cell? ⟨gx,1,none⟩=some (.string sx):=by simp [World.cell?,hg3]
      have hbase:=hb3.size
      have hltk:(x.take kk).length≤kk:=List.length_take_le _ _
      have hlen3:(x.take kk).length≤s.size+4294967296:=by omega
      obtain ⟨va3,vm3,vc3,rfl⟩:=zL HO3.out
      clear hb3 hown3 hg3
      generalize hlk:x.take kk=lk at *
      by_cases hlt:kk<x.length
      ·have hlt2:kk<sx.size:=by omega
       have hlt':(kk:Int)<sx.size:=by omega
       have hk0:(0:Int)≤kk:=by omega
       have hwk:IntKind.i64.wrap ((kk:Int)+1)=((kk+1:Nat):Int):=wI (by omega)
       have hxk:∀ h,((sx[kk]'h).toNat:Int)=x[kk]:=fun h=>by
        have e1:(nums sx)[kk]?=some (x[kk]):=by rw [HNX.out];exact List.getElem?_eq_getElem hlt
        rw [zOl sx kk hlt2] at e1
        exact Option.some.inj e1
       have htk:=List.take_succ_eq_append_getElem hlt
       have HTK:=Hd htk
       generalize hxe:x[kk]=y at *
       have HXE:=Hd hxe
       clear hxe htk
       go_wp2_with (at_builtin;refine yR wr #[.int .u8 y] _ rfl _ _ 145 5 rfl Tryz.underlying145 w0.heap.size kN rfl (by decide) _ _ _ rfl HO3.out 1 1 rfl rfl (by decide) (by intro u hu;simp at hu;subst hu;rfl) (by omega) (by omega) hbase ?_)
       intro v' w' hown hgr _
       have hb4:=vZ HB3.out hbase HO3.out hgr
       have hg4:w'.heap[gx]?=some (.cells #[.int .i64 n,.string sx] 195 (0,0)):=by
        have hne:=zKj HO3.out HG3.out
        have hlt:=zP HG3.out
        rw [hgr.block gx (by simp;omega) (fun e=>hne e.symm),Below.heap_alloc _ _ _ hlt]
        exact HG3.out
       have HO4:=Hd hown
       have HB4:=Hd hb4
       have HG4:=Hd hg4
       clear hown hb4 hgr hg4
       go_wp2_with fail
       refine ⟨?_,(by simp [intOf];try omega)⟩
       exact ⟨kk+1,by go_num,by omega,HB4.out,by rw [HTK.out,hlk,List.length_append,List.map_append];exact HO4.out,HG4.out⟩
      ·have hkx:kk=x.length:=by omega
       have hlt':¬ (kk:Int)<sx.size:=by omega
       have hwn:IntKind.i64.wrap ((j:Int)+n)=(j:Int)+n:=wI (by omega)
       have etk:x.take kk=x:=List.take_of_length_le (by omega)
       rw [etk] at hlk
       subst hlk
       have hjn:¬ (j:Int)+n=j:=by omega
       have hjnb:(((j:Int)+n) == (j:Int))=false:=by rw [beq_eq_false_iff_ne];exact hjn
       have hq0:(0:Int)≤(j:Int)+n:=by omega
       have hqn:((j:Int)+n).toNat=j+n:=by omega
       by_cases hq:j+n<s.size
       ·have hq':(j:Int)+n<s.size:=by omega
        have hq1:¬ ((s.size:Int)≤(j:Int)+n):=by omega
        have hzz:∀ h,((s[j+n]'h).toNat:Int)=(bt s (j+n):Int):=fun h=>by rw [yH s (j+n) h]
        by_cases hcq:bt s (j+n)=39
        ·have hcq':(bt s (j+n):Int)=39:=by omega
         have hS:single s j=some (j+n+1,x):=by rw [HS2.out,if_pos ⟨hq,hcq⟩]
         have HS3:=Hd hS
         have hwq:IntKind.i64.wrap ((j:Int)+n+1)=((j+n+1:Nat):Int):=wI (by omega)
         have hcv:∀ n,(convert 145 9 (.slice va3 vm3 vc3)).run Tryz.prog (wr.drewN n)=.ok (.string (strOfNums x)) (wr.drewN n):=fun n=>zAo (w:=wr.drewN n) HO3.out
         have HBN:Hid (∀ n,Below w0.heap.size w0 (wr.drewN n)):=Hd fun n=>bdrewN HB3.out n
         clear hS
         generalize bt s (j+n)=cq at *
         go_wp2_with fail
         go_quiet (fail)
         go_wp2_with fail
         refine bodyPost_ret (zY rfl _ _ _) rfl ?_
         exact HQS.out _ _ _ HS3.out (HBN.out _)
        ·have hcq':¬ (bt s (j+n):Int)=39:=by omega
         have HN:Hid (single s j=none):=Hd (by rw [HS2.out,if_neg (fun h=>hcq h.2)])
         generalize bt s (j+n)=cq at *
         go_wp2_with fail
         refine bodyPost_ret (zY rfl _ _ _) rfl ?_
         exact HQN.out _ HN.out HB3.out
       ·have hq':(s.size:Int)≤(j:Int)+n:=by omega
        have HN:Hid (single s j=none):=Hd (by rw [HS2.out,if_neg (fun h=>hq h.1)])
        go_wp2_with fail
        refine bodyPost_ret (zY rfl _ _ _) rfl ?_
        exact HQN.out _ HN.out HB3.out
  ·have hp':¬ (j:Int)<s.size:=by omega
   have HN:=Hd (zQn hp)
   go_wp2_with fail
   refine bodyPost_ret (zY rfl _ _ _) rfl ?_
   exact HQN.out _ HN.out (Below.refl _ _)
end Go.Proofs.YtfalelkfhandfaaGreatDoor
namespace Go.Proofs.YtfalelkfhandfaaGreatDoor
set_option maxRecDepth 100000
set_option maxHeartbeats 32000000
set_option linter.all false
open Go.RowKit
attribute [local irreducible] wpStill

theorem zUb (s:ByteArray) (at':Int) (hs:s.size≤2147483647) (w:World) :
  Calls Tryz.prog 127 #[.string s,.int .i64 at'] w (zU s at' w):=by
 by_cases h0:at'<0
 ·have HQ:Hid (zU s at' w (.returned (.tuple #[.int .u8 0,.int .i64 0,.string ⟨#[]⟩,.int .i64 15])) w):=Hd (by unfold zU;rw [zCd (Or.inl h0)];exact ⟨rfl,Below.refl _ _⟩)
  generalize zU s at' w=Q at *
  go_enter Tryz.func127,Tryz.ntmps127
  go_wp2_with fail
  refine bodyPost_ret (zY rfl _ _ _) rfl ?_
  exact HQ.out
 ·by_cases h1:(s.size:Int)≤at'
  ·have HQ:Hid (zU s at' w (.returned (.tuple #[.int .u8 0,.int .i64 0,.string ⟨#[]⟩,.int .i64 15])) w):=Hd (by unfold zU;rw [zCd (Or.inr h1)];exact ⟨rfl,Below.refl _ _⟩)
   generalize zU s at' w=Q at *
   go_enter Tryz.func127,Tryz.ntmps127
   go_wp2_with fail
   refine bodyPost_ret (zY rfl _ _ _) rfl ?_
   exact HQ.out
  ·obtain ⟨i,rfl⟩:∃ i:Nat,at'=i:=⟨at'.toNat,(Int.toNat_of_nonneg (by omega)).symm⟩
   have hi:i<s.size:=by omega
   by_cases h34:bt s i=34
   ·exact zOm s i hi h34 hs w
   ·by_cases h39:bt s i=39
    ·exact zOo s i hi h39 hs w
    ·by_cases h96:bt s i=96
     ·exact zOn s i hi h96 hs w
     ·have hmk:isMark (bt s i)=false:=by unfold isMark;simp [h34,h39,h96]
      have HQ:Hid (zU s i w (.returned (.tuple #[.int .u8 0,.int .i64 0,.string ⟨#[]⟩,.int .i64 15])) w):=Hd (by unfold zU;rw [zOb hmk];exact ⟨rfl,Below.refl _ _⟩)
      generalize zU s i w=Q at *
      have hxx:∀ h,((s[i]'h).toNat:Int)=(bt s i:Int):=fun h=>by rw [yH s i h]
      have h34':¬ (bt s i:Int)=34:=by omega
      have h39':¬ (bt s i:Int)=39:=by omega
      have h96':¬ (bt s i:Int)=96:=by omega
      have b34:((bt s i:Int) == 34)=false:=by rw [beq_eq_false_iff_ne];exact h34'
      have b39:((bt s i:Int) == 39)=false:=by rw [beq_eq_false_iff_ne];exact h39'
      have b96:((bt s i:Int) == 96)=false:=by rw [beq_eq_false_iff_ne];exact h96'
      have n34:((bt s i:Int) != 34)=true:=by simp [bne,b34]
      have n39:((bt s i:Int) != 39)=true:=by simp [bne,b39]
      have n96:((bt s i:Int) != 96)=true:=by simp [bne,b96]
      have hnn1:¬ s.size≤i:=by omega
      have hnn2:¬ (i:Int)<0:=by omega
      generalize bt s i=c at *
      go_enter Tryz.func127,Tryz.ntmps127
      go_wp2_with fail
      refine bodyPost_ret (zY rfl _ _ _) rfl ?_
      exact HQ.out
theorem zOp (s:ByteArray) (hs:s.size≤2147483647) (w0:World) :
  Calls Tryz.prog 112 #[.string s] w0 (valuePost s w0):=by
 have CB:=Hd (zUb s 0 hs w0)
 have HQ:Hid (∀ w' v err,Below w0.heap.size w0 w'→value s=(v,err)→valuePost s w0 (.returned (.tuple #[.string v,.int .i64 err])) w') :=
  Hd fun w' v err h1 h2=>by unfold valuePost;rw [h2];exact ⟨rfl,h1⟩
 generalize valuePost s w0=Q at *
 have hV:value s=if (begun s 0).2.2.2=0∧(begun s 0).2.1=s.size then ((begun s 0).2.2.1,0) else (ByteArray.empty,4):=by unfold value;rfl
 have HV:=Hd hV
 clear hV
 go_enter Tryz.func112,Tryz.ntmps112
 go_wp2_with fail
 refine CB.out.mono ?_
 intro e w1 h1
 unfold zU at h1
 obtain ⟨rfl,hb⟩:=h1
 unfold begunVals
 generalize begun s 0=q at *
 obtain ⟨k,t,v,err⟩:=q
 have HB:=Hd hb
 clear hb
 by_cases h1:err=0
 ·by_cases h2:t=s.size
  ·go_wp2_with fail
   exact HQ.out _ _ _ HB.out (by rw [HV.out,if_pos ⟨h1,h2⟩])
  ·go_wp2_with fail
   exact HQ.out _ _ _ HB.out (by rw [HV.out,if_neg (fun h=>h2 h.2)];rfl)
 ·go_wp2_with fail
  exact HQ.out _ _ _ HB.out (by rw [HV.out,if_neg (fun h=>h1 h.1)];rfl)
end Go.Proofs.YtfalelkfhandfaaGreatDoor
