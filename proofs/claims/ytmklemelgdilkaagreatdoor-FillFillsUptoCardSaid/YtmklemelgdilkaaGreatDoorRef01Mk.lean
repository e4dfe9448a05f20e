/- The reference's functions of layer 1, walked: each answers what the plain functions say, and leaves old memory as it was. -/
import Derived.Test.YtmklemelgdilkaaGreatDoorCoreMk
import Derived.Test.YtmklemelgdilkaaGreatDoorU8Mk
import Derived.Deep.RegionWith
namespace Go.Proofs.YtmklemelgdilkaaGreatDoor
open Go.RowKit

theorem ref_May (r:Int) (w:World) :
  Calls Tryz.prog 115 #[.int .i64 r] w fun e w'=>e=.returned (.bool (may r))∧w=w':=by
 go_enter Tryz.func115,Tryz.ntmps115
 go_wp2
 all_goals go_ret
 all_goals refine ⟨ret_bool ?_,rfl⟩
 all_goals (rw [Bool.eq_iff_iff,may_iff];simp;omega)

set_option maxRecDepth 100000 in
theorem ref_Form (r:Int) (w:World) :
  Calls Tryz.prog 99 #[.int .i64 r] w fun e w'=>e=.returned (.string (form r))∧Below w.heap.size w w':=by
 by_cases hm:may r=true
 ·have ⟨h0,h1,_⟩:=(may_iff r).1 hm
  have c1:=conv_lit w _ [r] 1 1 rfl rfl
  have c2:=conv_lit w _ [192+r / 64,128+r % 64] 2 2 rfl rfl
  have c3:=conv_lit w _ [224+r / 4096,128+r / 64 % 64,128+r % 64] 3 3 rfl rfl
  have c4:=conv_lit w _ [240+r / 262144,128+r / 4096 % 64,128+r / 64 % 64,128+r % 64] 4 4 rfl rfl
  simp only [List.map_cons,List.map_nil] at c1 c2 c3 c4
  have Hm:=Hd hm
  have c5:∀ w,Calls Tryz.prog 115 #[.int .i64 r] w fun e w'=>e=.returned (.bool true)∧w=w':=fun w=>by have:=ref_May r w;rw [hm] at this;exact this
  have C5:=Hd c5
  clear hm c5
  go_enter Tryz.func99,Tryz.ntmps99
  go_wp2_with (go_at_call 115;refine (C5.out _).mono ?_;rintro e w' ⟨rfl,rfl⟩)
  all_goals go_ret
  all_goals refine ⟨ret_str ?_,(Below.refl _ _).alloc (Nat.le_refl _) _⟩
  all_goals (have hm:=Hm.out;first | rw [form_1 hm (by omega)] | rw [form_2 hm (by omega) (by omega)] | rw [form_3 hm (by omega) (by omega)] | rw [form_4 hm (by omega)])
 ·have hf:may r=false:=by simpa using hm
  have HF:=Hd (form_none hf)
  have c5:∀ w,Calls Tryz.prog 115 #[.int .i64 r] w fun e w'=>e=.returned (.bool false)∧w=w':=fun w=>by have:=ref_May r w;rw [hf] at this;exact this
  have C5:=Hd c5
  clear hf hm c5
  go_enter Tryz.func99,Tryz.ntmps99
  go_wp2_with (go_at_call 115;refine (C5.out _).mono ?_;rintro e w' ⟨rfl,rfl⟩)
  go_ret
  exact ⟨ret_str HF.out.symm,Below.refl _ _⟩

theorem byte_lt (b:UInt8):(b.toNat:Int)<256:=by have:=b.toNat_lt;omega
theorem w64 {x:Int} (h0:0≤x) (h1:x≤9223372036854775807):wrap64 x=x:=by unfold wrap64;omega
theorem wv1 (s:ByteArray) (i:Nat) (h:i<s.size):wrap64 ((s[i]'h).toNat:Int)=(refV s i 1:Int):=by
 have h0:=byte_lt (s[i]'h)
 rw [refV_1,← bt_at s i h];unfold wrap64;omega
theorem wv2 (s:ByteArray) (i:Nat) (h:i+1<s.size) :
  wrap64 (wrap64 (64*(wrap64 ((s[i]'(by omega)).toNat:Int)).tmod 32)+(wrap64 ((s[i+1]'h).toNat:Int)).tmod 64)=(refV s i 2:Int):=by
 rw [refV_2,← bt_at s i (by omega),← bt_at s (i+1) h]
 have h0:=byte_lt (s[i]'(by omega));have h1:=byte_lt (s[i+1]'h)
 generalize (s[i]'(by omega)).toNat=a at *;generalize (s[i+1]'h).toNat=b at *
 rw [w64 (x:=(a:Int)) (by omega) (by omega),w64 (x:=(b:Int)) (by omega) (by omega),Int.tmod_eq_emod_of_nonneg (by omega),Int.tmod_eq_emod_of_nonneg (by omega),w64 (x:=64*((a:Int) % 32)) (by omega) (by omega),w64 (by omega) (by omega)];omega
theorem wv3 (s:ByteArray) (i:Nat) (h:i+2<s.size) :
  wrap64 (wrap64 (64*wrap64 (wrap64 (64*(wrap64 ((s[i]'(by omega)).toNat:Int)).tmod 16)+(wrap64 ((s[i+1]'(by omega)).toNat:Int)).tmod 64))+(wrap64 ((s[i+2]'h).toNat:Int)).tmod 64)=(refV s i 3:Int):=by
 rw [refV_3,← bt_at s i (by omega),← bt_at s (i+1) (by omega),← bt_at s (i+2) h]
 have h0:=byte_lt (s[i]'(by omega));have h1:=byte_lt (s[i+1]'(by omega));have h2:=byte_lt (s[i+2]'h)
 generalize (s[i]'(by omega)).toNat=a at *;generalize (s[i+1]'(by omega)).toNat=b at *;generalize (s[i+2]'h).toNat=c at *
 rw [w64 (x:=(a:Int)) (by omega) (by omega),w64 (x:=(b:Int)) (by omega) (by omega),w64 (x:=(c:Int)) (by omega) (by omega),Int.tmod_eq_emod_of_nonneg (by omega),Int.tmod_eq_emod_of_nonneg (by omega),Int.tmod_eq_emod_of_nonneg (by omega),w64 (x:=64*((a:Int) % 16)) (by omega) (by omega),w64 (x:=64*((a:Int) % 16)+(b:Int) % 64) (by omega) (by omega),w64 (x:=64*_) (by omega) (by omega),w64 (by omega) (by omega)];omega
theorem wv4 (s:ByteArray) (i:Nat) (h:i+3<s.size) :
  wrap64 (wrap64 (64*wrap64 (wrap64 (64*wrap64 (wrap64 (64*(wrap64 ((s[i]'(by omega)).toNat:Int)).tmod 8)+(wrap64 ((s[i+1]'(by omega)).toNat:Int)).tmod 64))+(wrap64 ((s[i+2]'(by omega)).toNat:Int)).tmod 64))+(wrap64 ((s[i+3]'h).toNat:Int)).tmod 64)=(refV s i 4:Int):=by
 rw [refV_4,← bt_at s i (by omega),← bt_at s (i+1) (by omega),← bt_at s (i+2) (by omega),← bt_at s (i+3) h]
 have h0:=byte_lt (s[i]'(by omega));have h1:=byte_lt (s[i+1]'(by omega));have h2:=byte_lt (s[i+2]'(by omega));have h3:=byte_lt (s[i+3]'h)
 generalize (s[i]'(by omega)).toNat=a at *;generalize (s[i+1]'(by omega)).toNat=b at *;generalize (s[i+2]'(by omega)).toNat=c at *;generalize (s[i+3]'h).toNat=d at *
 rw [w64 (x:=(a:Int)) (by omega) (by omega),w64 (x:=(b:Int)) (by omega) (by omega),w64 (x:=(c:Int)) (by omega) (by omega),w64 (x:=(d:Int)) (by omega) (by omega),Int.tmod_eq_emod_of_nonneg (by omega),Int.tmod_eq_emod_of_nonneg (by omega),Int.tmod_eq_emod_of_nonneg (by omega),Int.tmod_eq_emod_of_nonneg (by omega),w64 (x:=64*((a:Int) % 8)) (by omega) (by omega),w64 (x:=64*((a:Int) % 8)+(b:Int) % 64) (by omega) (by omega),w64 (x:=64*(64*((a:Int) % 8)+(b:Int) % 64)) (by omega) (by omega),w64 (x:=64*(64*((a:Int) % 8)+(b:Int) % 64)+(c:Int) % 64) (by omega) (by omega),w64 (x:=64*_) (by omega) (by omega),w64 (by omega) (by omega)];omega

theorem rd_none' (s:ByteArray) (i k:Nat) (h:∀ m,1≤m→m<k→i+m≤s.size→refTry s i m=false) (hk:5≤k∨s.size<i+k):rd s i=(0,0) :=
 rd_none s i fun n h1 h4 hn=>h n h1 (by omega) hn
theorem all_next (s:ByteArray) (i k:Nat) (h:∀ m,1≤m→m<k→i+m≤s.size→refTry s i m=false) (hk:refTry s i k=false):∀ m,1≤m→m<k+1→i+m≤s.size→refTry s i m=false:=fun m h1 h2 h3=>by
 by_cases e:m=k
 ·subst e;exact hk
 ·exact h m h1 (by omega) h3

set_option maxHeartbeats 4000000 in
theorem ref_Read (s:ByteArray) (at':Int) (w:World) (hs:s.size≤9223372036854775807) :
  Calls Tryz.prog 85 #[.string s,.int .i64 at'] w fun e w'=>e=.returned (.tuple #[.int .i64 (rdI s at').1,.int .i64 (rdI s at').2])∧Below w.heap.size w w':=by
 by_cases hi:0≤at'∧at'<s.size
 ·obtain ⟨i,rfl⟩:=Int.eq_ofNat_of_zero_le hi.1
  have hi2:i<s.size:=by omega
  have d1:decide (s.size≤i)=false:=by simp;omega
  have d2:decide ((i:Int)<0)=false:=by simp
  clear hi
  go_enter Tryz.func85,Tryz.ntmps85
  go_wp2_with fail
  go_loopw [6] (fun n wr=>∃ k:Nat,1≤k∧k≤5∧n=.int .i64 k∧(∀ m,1≤m→m<k→i+m≤s.size→refTry s i m=false)∧Below w.heap.size w wr) (fun n _=>(5-intOf n).toNat)
  case atStart=>exact ⟨1,by omega,by omega,rfl,fun m _ _ _=>by omega,Below.refl _ _⟩
  case round =>
   obtain ⟨k,hk1,hk5,rfl,hall,hb⟩:=hrel
   have HA:=Hd hall
   clear hall
   have hk:k=1∨k=2∨k=3∨k=4∨k=5:=by omega
   rcases hk with rfl | rfl | rfl | rfl | rfl
   ·by_cases hlt:i+1≤s.size
    ·go_wp2_with fail
     go_rounds 2
     rw [wv1 s i (by omega)]
     have f1:IntKind.i64.wrap ((i:Int)+1)=(i:Int)+1:=IntWalk.i64_in _ (by omega)
     have f2:0≤(i:Int)+1:=by omega
     have f3:((i:Int)+1).toNat=i+1:=by omega
     have f4:(i:Int)+1≤s.size:=by omega
     have f5:(i:Int)≤(i:Int)+1:=by omega
     go_region_with (go_at_call 99;refine (ref_Form _ _).mono ?_;rintro e w' ⟨rfl,hb'⟩)
     clear f1 f2 f3 f4 f5
     go_wp2_with fail
     ·have ht:refTry s i 1=true:=by assumption
      have HR:=rd_try s i 1 (by omega) (by omega) hlt ht
      go_ret2
      exact ⟨ret_ints (by rw [rdI_nat,HR]) (by rw [rdI_nat,HR];rfl),hb.drew.trans (hb'.mono hb.size)⟩
     ·have ht:refTry s i 1=false:=by assumption
      go_roundw
      case rel=>exact ⟨1+1,by omega,by omega,rfl,all_next s i 1 HA.out ht,hb.drew.trans ((hb'.mono hb.size))⟩
      case measure=>simp [intOf]
    ·have HR:=Hd (rd_none' s i 1 HA.out (Or.inr (by omega)))
     go_wp2_with fail
     all_goals go_ret2
     all_goals exact ⟨ret_ints (by rw [rdI_nat,HR.out];rfl) (by rw [rdI_nat,HR.out];rfl),hb⟩
   ·by_cases hlt:i+2≤s.size
    ·go_wp2_with fail
     go_rounds 3
     rw [wv2 s i (by omega)]
     have f1:IntKind.i64.wrap ((i:Int)+2)=(i:Int)+2:=IntWalk.i64_in _ (by omega)
     have f2:0≤(i:Int)+2:=by omega
     have f3:((i:Int)+2).toNat=i+2:=by omega
     have f4:(i:Int)+2≤s.size:=by omega
     have f5:(i:Int)≤(i:Int)+2:=by omega
     go_region_with (go_at_call 99;refine (ref_Form _ _).mono ?_;rintro e w' ⟨rfl,hb'⟩)
     clear f1 f2 f3 f4 f5
     go_wp2_with fail
     ·have ht:refTry s i 2=true:=by assumption
      have HR:=rd_try s i 2 (by omega) (by omega) hlt ht
      go_ret2
      exact ⟨ret_ints (by rw [rdI_nat,HR]) (by rw [rdI_nat,HR];rfl),hb.drew.trans (hb'.mono hb.size)⟩
     ·have ht:refTry s i 2=false:=by assumption
      go_roundw
      case rel=>exact ⟨2+1,by omega,by omega,rfl,all_next s i 2 HA.out ht,hb.drew.trans ((hb'.mono hb.size))⟩
      case measure=>simp [intOf]
    ·have HR:=Hd (rd_none' s i 2 HA.out (Or.inr (by omega)))
     go_wp2_with fail
     all_goals go_ret2
     all_goals exact ⟨ret_ints (by rw [rdI_nat,HR.out];rfl) (by rw [rdI_nat,HR.out];rfl),hb⟩
   ·by_cases hlt:i+3≤s.size
    ·go_wp2_with fail
     go_rounds 4
     rw [wv3 s i (by omega)]
     have f1:IntKind.i64.wrap ((i:Int)+3)=(i:Int)+3:=IntWalk.i64_in _ (by omega)
     have f2:0≤(i:Int)+3:=by omega
     have f3:((i:Int)+3).toNat=i+3:=by omega
     have f4:(i:Int)+3≤s.size:=by omega
     have f5:(i:Int)≤(i:Int)+3:=by omega
     go_region_with (go_at_call 99;refine (ref_Form _ _).mono ?_;rintro e w' ⟨rfl,hb'⟩)
     clear f1 f2 f3 f4 f5
     go_wp2_with fail
     ·have ht:refTry s i 3=true:=by assumption
      have HR:=rd_try s i 3 (by omega) (by omega) hlt ht
      go_ret2
      exact ⟨ret_ints (by rw [rdI_nat,HR]) (by rw [rdI_nat,HR];rfl),hb.drew.trans (hb'.mono hb.size)⟩
     ·have ht:refTry s i 3=false:=by assumption
      go_roundw
      case rel=>exact ⟨3+1,by omega,by omega,rfl,all_next s i 3 HA.out ht,hb.drew.trans ((hb'.mono hb.size))⟩
      case measure=>simp [intOf]
    ·have HR:=Hd (rd_none' s i 3 HA.out (Or.inr (by omega)))
     go_wp2_with fail
     all_goals go_ret2
     all_goals exact ⟨ret_ints (by rw [rdI_nat,HR.out];rfl) (by rw [rdI_nat,HR.out];rfl),hb⟩
   ·by_cases hlt:i+4≤s.size
    ·go_wp2_with fail
     go_rounds 5
     rw [wv4 s i (by omega)]
     have f1:IntKind.i64.wrap ((i:Int)+4)=(i:Int)+4:=IntWalk.i64_in _ (by omega)
     have f2:0≤(i:Int)+4:=by omega
     have f3:((i:Int)+4).toNat=i+4:=by omega
     have f4:(i:Int)+4≤s.size:=by omega
     have f5:(i:Int)≤(i:Int)+4:=by omega
     go_region_with (go_at_call 99;refine (ref_Form _ _).mono ?_;rintro e w' ⟨rfl,hb'⟩)
     clear f1 f2 f3 f4 f5
     go_wp2_with fail
     ·have ht:refTry s i 4=true:=by assumption
      have HR:=rd_try s i 4 (by omega) (by omega) hlt ht
      go_ret2
      exact ⟨ret_ints (by rw [rdI_nat,HR]) (by rw [rdI_nat,HR];rfl),hb.drew.trans (hb'.mono hb.size)⟩
     ·have ht:refTry s i 4=false:=by assumption
      go_roundw
      case rel=>exact ⟨4+1,by omega,by omega,rfl,all_next s i 4 HA.out ht,hb.drew.trans ((hb'.mono hb.size))⟩
      case measure=>simp [intOf]
    ·have HR:=Hd (rd_none' s i 4 HA.out (Or.inr (by omega)))
     go_wp2_with fail
     all_goals go_ret2
     all_goals exact ⟨ret_ints (by rw [rdI_nat,HR.out];rfl) (by rw [rdI_nat,HR.out];rfl),hb⟩
   ·have HR:=Hd (rd_none' s i 5 HA.out (Or.inl (by omega)))
    go_wp2_with fail
    all_goals go_ret2
    all_goals exact ⟨ret_ints (by rw [rdI_nat,HR.out];rfl) (by rw [rdI_nat,HR.out];rfl),hb⟩
 ·have HR:=Hd (show rdI s at'=(0,0) by
   by_cases h:at'<0
   ·exact rdI_neg h
   ·obtain ⟨i,rfl⟩:=Int.eq_ofNat_of_zero_le (by omega:0≤at')
    rw [rdI_nat,rd_out (by omega)])
  by_cases hn:at'<0
  ·clear hi
   go_enter Tryz.func85,Tryz.ntmps85
   go_wp2_with fail
   go_ret2
   exact ⟨ret_ints (by rw [HR.out];rfl) (by rw [HR.out];rfl),Below.refl _ _⟩
  ·have hge:s.size≤at':=by omega
   clear hi
   go_enter Tryz.func85,Tryz.ntmps85
   go_wp2_with fail
   go_ret2
   exact ⟨ret_ints (by rw [HR.out];rfl) (by rw [HR.out];rfl),Below.refl _ _⟩
end Go.Proofs.YtmklemelgdilkaaGreatDoor
