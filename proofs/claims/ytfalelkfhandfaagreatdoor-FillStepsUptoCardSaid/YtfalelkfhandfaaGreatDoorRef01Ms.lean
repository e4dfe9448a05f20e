/- The reference's functions of layer 1, walked: each answers what the plain functions say, and leaves old memory as it was. -/
import Derived.Test.YtfalelkfhandfaaGreatDoorCoreMs
import Derived.Test.YtfalelkfhandfaaGreatDoorU8Ms
import Derived.Deep.RegionWith
namespace Go.Proofs.YtfalelkfhandfaaGreatDoor
set_option maxRecDepth 100000
set_option maxHeartbeats 32000000
open Go.RowKit

theorem zFz (r:Int) (w:World) :
  Calls Tryz.prog 145 #[.int .i64 r] w fun e w'=>e=.returned (.bool (may r))∧w=w':=by
 go_enter Tryz.func145,Tryz.ntmps145
 go_wp2
 all_goals go_ret
 all_goals refine ⟨yW ?_,rfl⟩
 all_goals (rw [Bool.eq_iff_iff,vG];simp;omega)

theorem fB (r:Int) (w:World) :
  Calls Tryz.prog 126 #[.int .i64 r] w fun e w'=>e=.returned (.string (form r))∧Below w.heap.size w w':=by
 by_cases hm:may r=true
 ·have ⟨h0,h1,_⟩:=(vG r).1 hm
  have c1:=gW w _ [r] 1 1 rfl rfl
  have c2:=gW w _ [192+r / 64,128+r % 64] 2 2 rfl rfl
  have c3:=gW w _ [224+r / 4096,128+r / 64 % 64,128+r % 64] 3 3 rfl rfl
  have c4:=gW w _ [240+r / 262144,128+r / 4096 % 64,128+r / 64 % 64,128+r % 64] 4 4 rfl rfl
  simp only [List.map_cons,List.map_nil] at c1 c2 c3 c4
  have Hm:=Hd hm
  have c5:∀ w,Calls Tryz.prog 145 #[.int .i64 r] w fun e w'=>e=.returned (.bool true)∧w=w':=fun w=>by have:=zFz r w;rw [hm] at this;exact this
  have C5:=Hd c5
  clear hm c5
  go_enter Tryz.func126,Tryz.ntmps126
  go_wp2_with (go_at_call 145;refine (C5.out _).mono ?_;rintro e w' ⟨rfl,rfl⟩)
  all_goals go_ret
  all_goals refine ⟨zBv ?_,(Below.refl _ _).alloc (Nat.le_refl _) _⟩
  all_goals (have hm:=Hm.out;first | rw [zYw hm (by omega)] | rw [zYx hm (by omega) (by omega)] | rw [zYy hm (by omega) (by omega)] | rw [zYz hm (by omega)])
 ·have hf:may r=false:=by simpa using hm
  have HF:=Hd (zEs hf)
  have c5:∀ w,Calls Tryz.prog 145 #[.int .i64 r] w fun e w'=>e=.returned (.bool false)∧w=w':=fun w=>by have:=zFz r w;rw [hf] at this;exact this
  have C5:=Hd c5
  clear hf hm c5
  go_enter Tryz.func126,Tryz.ntmps126
  go_wp2_with (go_at_call 145;refine (C5.out _).mono ?_;rintro e w' ⟨rfl,rfl⟩)
  go_ret
  exact ⟨zBv HF.out.symm,Below.refl _ _⟩

theorem gC (b:UInt8):(b.toNat:Int)<256:=by have:=b.toNat_lt;omega
theorem w64 {x:Int} (h0:0≤x) (h1:x≤9223372036854775807):wrap64 x=x:=by unfold wrap64;omega
theorem wv1 (s:ByteArray) (i:Nat) (h:i<s.size):wrap64 ((s[i]'h).toNat:Int)=(refV s i 1:Int):=by
 have h0:=gC (s[i]'h)
 rw [zIq,← yH s i h];unfold wrap64;omega
theorem wv2 (s:ByteArray) (i:Nat) (h:i+1<s.size) :
  wrap64 (wrap64 (64*(wrap64 ((s[i]'(by omega)).toNat:Int)).tmod 32)+(wrap64 ((s[i+1]'h).toNat:Int)).tmod 64)=(refV s i 2:Int):=by
 rw [zEt,← yH s i (by omega),← yH s (i+1) h]
 have h0:=gC (s[i]'(by omega));have h1:=gC (s[i+1]'h)
 generalize (s[i]'(by omega)).toNat=a at *;generalize (s[i+1]'h).toNat=b at *
 rw [w64 (x:=(a:Int)) (by omega) (by omega),w64 (x:=(b:Int)) (by omega) (by omega),Int.tmod_eq_emod_of_nonneg (by omega),Int.tmod_eq_emod_of_nonneg (by omega),w64 (x:=64*((a:Int) % 32)) (by omega) (by omega),w64 (by omega) (by omega)];omega
theorem wv3 (s:ByteArray) (i:Nat) (h:i+2<s.size) :
  wrap64 (wrap64 (64*wrap64 (wrap64 (64*(wrap64 ((s[i]'(by omega)).toNat:Int)).tmod 16)+(wrap64 ((s[i+1]'(by omega)).toNat:Int)).tmod 64))+(wrap64 ((s[i+2]'h).toNat:Int)).tmod 64)=(refV s i 3:Int):=by
 rw [zIr,← yH s i (by omega),← yH s (i+1) (by omega),← yH s (i+2) h]
 have h0:=gC (s[i]'(by omega));have h1:=gC (s[i+1]'(by omega));have h2:=gC (s[i+2]'h)
 generalize (s[i]'(by omega)).toNat=a at *;generalize (s[i+1]'(by omega)).toNat=b at *;generalize (s[i+2]'h).toNat=c at *
 rw [w64 (x:=(a:Int)) (by omega) (by omega),w64 (x:=(b:Int)) (by omega) (by omega),w64 (x:=(c:Int)) (by omega) (by omega),Int.tmod_eq_emod_of_nonneg (by omega),Int.tmod_eq_emod_of_nonneg (by omega),Int.tmod_eq_emod_of_nonneg (by omega),w64 (x:=64*((a:Int) % 16)) (by omega) (by omega),w64 (x:=64*((a:Int) % 16)+(b:Int) % 64) (by omega) (by omega),w64 (x:=64*_) (by omega) (by omega),w64 (by omega) (by omega)];omega
theorem wv4 (s:ByteArray) (i:Nat) (h:i+3<s.size) :
  wrap64 (wrap64 (64*wrap64 (wrap64 (64*wrap64 (wrap64 (64*(wrap64 ((s[i]'(by omega)).toNat:Int)).tmod 8)+(wrap64 ((s[i+1]'(by omega)).toNat:Int)).tmod 64))+(wrap64 ((s[i+2]'(by omega)).toNat:Int)).tmod 64))+(wrap64 ((s[i+3]'h).toNat:Int)).tmod 64)=(refV s i 4:Int):=by
 rw [zIs,← yH s i (by omega),← yH s (i+1) (by omega),← yH s (i+2) (by omega),← yH s (i+3) h]
 have h0:=gC (s[i]'(by omega));have h1:=gC (s[i+1]'(by omega));have h2:=gC (s[i+2]'(by omega));have h3:=gC (s[i+3]'h)
 generalize (s[i]'(by omega)).toNat=a at *;generalize (s[i+1]'(by omega)).toNat=b at *;generalize (s[i+2]'(by omega)).toNat=c at *;generalize (s[i+3]'h).toNat=d at *
 rw [w64 (x:=(a:Int)) (by omega) (by omega),w64 (x:=(b:Int)) (by omega) (by omega),w64 (x:=(c:Int)) (by omega) (by omega),w64 (x:=(d:Int)) (by omega) (by omega),Int.tmod_eq_emod_of_nonneg (by omega),Int.tmod_eq_emod_of_nonneg (by omega),Int.tmod_eq_emod_of_nonneg (by omega),Int.tmod_eq_emod_of_nonneg (by omega),w64 (x:=64*((a:Int) % 8)) (by omega) (by omega),w64 (x:=64*((a:Int) % 8)+(b:Int) % 64) (by omega) (by omega),w64 (x:=64*(64*((a:Int) % 8)+(b:Int) % 64)) (by omega) (by omega),w64 (x:=64*(64*((a:Int) % 8)+(b:Int) % 64)+(c:Int) % 64) (by omega) (by omega),w64 (x:=64*_) (by omega) (by omega),w64 (by omega) (by omega)];omega

theorem zBo (s:ByteArray) (i k:Nat) (h:∀ m,1≤m→m<k→i+m≤s.size→refTry s i m=false) (hk:5≤k∨s.size<i+k):rd s i=(0,0) :=
 zMm s i fun n h1 h4 hn=>h n h1 (by omega) hn
theorem zDm (s:ByteArray) (i k:Nat) (h:∀ m,1≤m→m<k→i+m≤s.size→refTry s i m=false) (hk:refTry s i k=false):∀ m,1≤m→m<k+1→i+m≤s.size→refTry s i m=false:=fun m h1 h2 h3=>by
 by_cases e:m=k
 ·subst e;exact hk
 ·exact h m h1 (by omega) h3

theorem zHu (s:ByteArray) (at':Int) (w:World) (hs:s.size≤9223372036854775807) :
  Calls Tryz.prog 107 #[.string s,.int .i64 at'] w fun e w'=>e=.returned (.tuple #[.int .i64 (rdI s at').1,.int .i64 (rdI s at').2])∧Below w.heap.size w w':=by
 by_cases hi:0≤at'∧at'<s.size
 ·obtain ⟨i,rfl⟩:=Int.eq_ofNat_of_zero_le hi.1
  have hi2:i<s.size:=by omega
  have d1:decide (s.size≤i)=false:=by simp;omega
  have d2:decide ((i:Int)<0)=false:=by simp
  clear hi
  go_enter Tryz.func107,Tryz.ntmps107
  go_wp2_with fail
  go_loopw [6] (fun n wr=>∃ k:Nat,1≤k∧k≤5∧n=.int .i64 k∧(∀ m,1≤m→m<k→i+m≤s.size→refTry s i m=false)∧Below w.heap.size w wr) (fun n _=>(5-intOf n).toNat)
  case atStart=>exact ⟨1,by omega,by omega,rfl,fun m _ _ _=>by omega,Below.refl _ _⟩
  case round =>
   obtain ⟨k,hk1,hk5,rfl,hall,hb⟩:=hrel
   have HA:=Hd hall
   clear hall
   have hk:k=1∨k=2∨k=3∨k=4∨k=5:=by omega
   rcases hk with rfl | rfl | rfl | rfl | rfl
   ·by_cases hlt:i+1≤s.size
    ·go_wp2_with fail
     go_rounds 2
     rw [wv1 s i (by omega)]
     have f1:IntKind.i64.wrap ((i:Int)+1)=(i:Int)+1:=IntWalk.i64_in _ (by omega)
     have f2:0≤(i:Int)+1:=by omega
     have f3:((i:Int)+1).toNat=i+1:=by omega
     have f4:(i:Int)+1≤s.size:=by omega
     have f5:(i:Int)≤(i:Int)+1:=by omega
     go_region_with (go_at_call 126;refine (fB _ _).mono ?_;rintro e w' ⟨rfl,hb'⟩)
     clear f1 f2 f3 f4 f5
     go_wp2_with fail
     ·have ht:refTry s i 1=true:=by assumption
      have HR:=zEu s i 1 (by omega) (by omega) hlt ht
      go_ret2
      exact ⟨vJ (by rw [xC,HR]) (by rw [xC,HR];rfl),hb.drew.trans (hb'.mono hb.size)⟩
     ·have ht:refTry s i 1=false:=by assumption
      go_roundw
      case rel=>exact ⟨1+1,by omega,by omega,rfl,zDm s i 1 HA.out ht,hb.drew.trans ((hb'.mono hb.size))⟩
      case measure=>simp [intOf]
    ·have HR:=Hd (zBo s i 1 HA.out (Or.inr (by omega)))
     go_wp2_with fail
     all_goals go_ret2
     all_goals exact ⟨vJ (by rw [xC,HR.out];rfl) (by rw [xC,HR.out];rfl),hb⟩
   ·by_cases hlt:i+2≤s.size
    ·go_wp2_with fail
     go_rounds 3
     rw [wv2 s i (by omega)]
     have f1:IntKind.i64.wrap ((i:Int)+2)=(i:Int)+2:=IntWalk.i64_in _ (by omega)
     have f2:0≤(i:Int)+2:=by omega
     have f3:((i:Int)+2).toNat=i+2:=by omega
     have f4:(i:Int)+2≤s.size:=by omega
     have f5:(i:Int)≤(i:Int)+2:=by omega
     go_region_with (go_at_call 126;refine (fB _ _).mono ?_;rintro e w' ⟨rfl,hb'⟩)
     clear f1 f2 f3 f4 f5
     go_wp2_with fail
     ·have ht:refTry s i 2=true:=by assumption
      have HR:=zEu s i 2 (by omega) (by omega) hlt ht
      go_ret2
      exact ⟨vJ (by rw [xC,HR]) (by rw [xC,HR];rfl),hb.drew.trans (hb'.mono hb.size)⟩
     ·have ht:refTry s i 2=false:=by assumption
      go_roundw
      case rel=>exact ⟨2+1,by omega,by omega,rfl,zDm s i 2 HA.out ht,hb.drew.trans ((hb'.mono hb.size))⟩
      case measure=>simp [intOf]
    ·have HR:=Hd (zBo s i 2 HA.out (Or.inr (by omega)))
     go_wp2_with fail
     all_goals go_ret2
     all_goals exact ⟨vJ (by rw [xC,HR.out];rfl) (by rw [xC,HR.out];rfl),hb⟩
   ·by_cases hlt:i+3≤s.size
    ·go_wp2_with fail
     go_rounds 4
     rw [wv3 s i (by omega)]
     have f1:IntKind.i64.wrap ((i:Int)+3)=(i:Int)+3:=IntWalk.i64_in _ (by omega)
     have f2:0≤(i:Int)+3:=by omega
     have f3:((i:Int)+3).toNat=i+3:=by omega
     have f4:(i:Int)+3≤s.size:=by omega
     have f5:(i:Int)≤(i:Int)+3:=by omega
     go_region_with (go_at_call 126;refine (fB _ _).mono ?_;rintro e w' ⟨rfl,hb'⟩)
     clear f1 f2 f3 f4 f5
     go_wp2_with fail
     ·have ht:refTry s i 3=true:=by assumption
      have HR:=zEu s i 3 (by omega) (by omega) hlt ht
      go_ret2
      exact ⟨vJ (by rw [xC,HR]) (by rw [xC,HR];rfl),hb.drew.trans (hb'.mono hb.size)⟩
     ·have ht:refTry s i 3=false:=by assumption
      go_roundw
      case rel=>exact ⟨3+1,by omega,by omega,rfl,zDm s i 3 HA.out ht,hb.drew.trans ((hb'.mono hb.size))⟩
      case measure=>simp [intOf]
    ·have HR:=Hd (zBo s i 3 HA.out (Or.inr (by omega)))
     go_wp2_with fail
     all_goals go_ret2
     all_goals exact ⟨vJ (by rw [xC,HR.out];rfl) (by rw [xC,HR.out];rfl),hb⟩
   ·by_cases hlt:i+4≤s.size
    ·go_wp2_with fail
     go_rounds 5
     rw [wv4 s i (by omega)]
     have f1:IntKind.i64.wrap ((i:Int)+4)=(i:Int)+4:=IntWalk.i64_in _ (by omega)
     have f2:0≤(i:Int)+4:=by omega
     have f3:((i:Int)+4).toNat=i+4:=by omega
     have f4:(i:Int)+4≤s.size:=by omega
     have f5:(i:Int)≤(i:Int)+4:=by omega
     go_region_with (go_at_call 126;refine (fB _ _).mono ?_;rintro e w' ⟨rfl,hb'⟩)
     clear f1 f2 f3 f4 f5
     go_wp2_with fail
     ·have ht:refTry s i 4=true:=by assumption
      have HR:=zEu s i 4 (by omega) (by omega) hlt ht
      go_ret2
      exact ⟨vJ (by rw [xC,HR]) (by rw [xC,HR];rfl),hb.drew.trans (hb'.mono hb.size)⟩
     ·have ht:refTry s i 4=false:=by assumption
      go_roundw
      case rel=>exact ⟨4+1,by omega,by omega,rfl,zDm s i 4 HA.out ht,hb.drew.trans ((hb'.mono hb.size))⟩
      case measure=>simp [intOf]
    ·have HR:=Hd (zBo s i 4 HA.out (Or.inr (by omega)))
     go_wp2_with fail
     all_goals go_ret2
     all_goals exact ⟨vJ (by rw [xC,HR.out];rfl) (by rw [xC,HR.out];rfl),hb⟩
   ·have HR:=Hd (zBo s i 5 HA.out (Or.inl (by omega)))
    go_wp2_with fail
    all_goals go_ret2
    all_goals exact ⟨vJ (by rw [xC,HR.out];rfl) (by rw [xC,HR.out];rfl),hb⟩
 ·have HR:=Hd (show rdI s at'=(0,0) by
   by_cases h:at'<0
   ·exact zSk h
   ·obtain ⟨i,rfl⟩:=Int.eq_ofNat_of_zero_le (by omega:0≤at')
    rw [xC,zZc (by omega)])
  by_cases hn:at'<0
  ·clear hi
   go_enter Tryz.func107,Tryz.ntmps107
   go_wp2_with fail
   go_ret2
   exact ⟨vJ (by rw [HR.out];rfl) (by rw [HR.out];rfl),Below.refl _ _⟩
  ·have hge:s.size≤at':=by omega
   clear hi
   go_enter Tryz.func107,Tryz.ntmps107
   go_wp2_with fail
   go_ret2
   exact ⟨vJ (by rw [HR.out];rfl) (by rw [HR.out];rfl),Below.refl _ _⟩
end Go.Proofs.YtfalelkfhandfaaGreatDoor
