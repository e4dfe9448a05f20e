/- The reference's functions of layer 1, walked: each answers what the plain functions say, and leaves old memory as it was. -/
import Derived.Test.YtfpjdpdmgceciaaGreatDoorCoreTg
import Derived.Test.YtfpjdpdmgceciaaGreatDoorU8Tg
import Derived.Deep.RegionWith
namespace Go.Proofs.YtfpjdpdmgceciaaGreatDoor
set_option maxRecDepth 100000
set_option maxHeartbeats 32000000
open Go.RowKit
theorem zHb(r:Int)(w:World) :
  Calls Tryz.prog 196 #[.int .i64 r] w λe w'=>e=.returned (.bool (may r))/\w=w':=by
 go_enter Tryz.func196,Tryz.ntmps196;go_wp2;all_goals go_ret
 all_goals refine⟨zX ?_,rfl⟩
 all_goals(rw[Bool.eq_iff_iff,yZ];simp;omega)
theorem gU(r:Int)(w:World) :
  Calls Tryz.prog 158 #[.int .i64 r] w λe w'=>e=.returned (.string (form r))/\Below w.heap.size w w':=by
 by_cases hm:may r=true
 .have⟨h0,h1,_⟩:=(yZ r).1 hm;have c1:=gJ w _ [r] 1 1 rfl rfl;have c2:=gJ w _ [192+r / 64,128+r % 64] 2 2 rfl rfl;have c3:=gJ w _ [224+r / 4096,128+r / 64 % 64,128+r % 64] 3 3 rfl rfl;have c4:=gJ w _ [240+r / 262144,128+r / 4096 % 64,128+r / 64 % 64,128+r % 64] 4 4 rfl rfl;simp only[List.map_cons,List.map_nil]at c1 c2 c3 c4;have Hm:=Hd hm;have c5:∀w,Calls Tryz.prog 196 #[.int .i64 r] w λe w'=>e=.returned (.bool true)/\w=w':=λw=>by have:=zHb r w;rw[hm]at this;exact this
  have C5:=Hd c5;clear hm c5;go_enter Tryz.func158,Tryz.ntmps158;go_wp2_with (go_at_call 196;refine(C5.out _).mono ?_;rintro e w' ⟨rfl,rfl⟩);all_goals go_ret
  all_goals refine⟨zGt ?_,(bR _ _).alloc (nR _) _⟩
  all_goals(have hm:=Hm.out;first|rw[yDy hm Z]|rw[yDz hm Z Z]|rw[yEa hm Z Z]|rw[yEb hm Z])
 .have hf:may r=false:=by simpa using hm
  have HF:=Hd (zFh hf);have c5:∀w,Calls Tryz.prog 196 #[.int .i64 r] w λe w'=>e=.returned (.bool false)/\w=w':=λw=>by have:=zHb r w;rw[hf]at this;exact this
  have C5:=Hd c5;clear hf hm c5;go_enter Tryz.func158,Tryz.ntmps158;go_wp2_with (go_at_call 196;refine(C5.out _).mono ?_;rintro e w' ⟨rfl,rfl⟩);go_ret;exact⟨zGt HF.out.symm,bR _ _⟩
theorem jE(b:UInt8):(b.toNat:Int)<256:=by have:=b.toNat_lt;omega
theorem w64{x:Int}(h0:0<=x)(h1:x<=9223372036854775807):wrap64 x=x:=by unfold wrap64;omega
theorem wv1(s:ByteArray)(i:Nat)(h:i<s.size):wrap64 ((s[i]'h).toNat:Int)=(refV s i 1:Int):=by
 have h0:=jE (s[i]'h);rw[zDh,<-zL s i h];unfold wrap64;omega
theorem wv2(s:ByteArray)(i:Nat)(h:i+1<s.size) :
  wrap64 (wrap64 (64*(wrap64 ((s[i]'Z).toNat:Int)).tmod 32)+(wrap64 ((s[i+1]'h).toNat:Int)).tmod 64)=(refV s i 2:Int):=by
 rw[zDi,<-zL s i Z,<-zL s (i+1) h];have h0:=jE (s[i]'Z);have h1:=jE (s[i+1]'h);generalize(s[i]'Z).toNat=a at *;generalize(s[i+1]'h).toNat=b at *;rw[w64 (x:=(a:Int)) Z Z,w64 (x:=(b:Int)) Z Z,Int.tmod_eq_emod_of_nonneg Z,Int.tmod_eq_emod_of_nonneg Z,w64 (x:=64*((a:Int) % 32)) Z Z,w64 Z Z];omega
theorem wv3(s:ByteArray)(i:Nat)(h:i+2<s.size) :
  wrap64 (wrap64 (64*wrap64 (wrap64 (64*(wrap64 ((s[i]'Z).toNat:Int)).tmod 16)+(wrap64 ((s[i+1]'Z).toNat:Int)).tmod 64))+(wrap64 ((s[i+2]'h).toNat:Int)).tmod 64)=(refV s i 3:Int):=by
 rw[zFi,<-zL s i Z,<-zL s (i+1) Z,<-zL s (i+2) h];have h0:=jE (s[i]'Z);have h1:=jE (s[i+1]'Z);have h2:=jE (s[i+2]'h);generalize(s[i]'Z).toNat=a at *;generalize(s[i+1]'Z).toNat=b at *;generalize(s[i+2]'h).toNat=c at *;rw[w64 (x:=(a:Int)) Z Z,w64 (x:=(b:Int)) Z Z,w64 (x:=(c:Int)) Z Z,Int.tmod_eq_emod_of_nonneg Z,Int.tmod_eq_emod_of_nonneg Z,Int.tmod_eq_emod_of_nonneg Z,w64 (x:=64*((a:Int) % 16)) Z Z,w64 (x:=64*((a:Int) % 16)+(b:Int) % 64) Z Z,w64 (x:=64*_) Z Z,w64 Z Z];omega
theorem wv4(s:ByteArray)(i:Nat)(h:i+3<s.size) :
  wrap64 (wrap64 (64*wrap64 (wrap64 (64*wrap64 (wrap64 (64*(wrap64 ((s[i]'Z).toNat:Int)).tmod 8)+(wrap64 ((s[i+1]'Z).toNat:Int)).tmod 64))+(wrap64 ((s[i+2]'Z).toNat:Int)).tmod 64))+(wrap64 ((s[i+3]'h).toNat:Int)).tmod 64)=(refV s i 4:Int):=by
 rw[zFj,<-zL s i Z,<-zL s (i+1) Z,<-zL s (i+2) Z,<-zL s (i+3) h];have h0:=jE (s[i]'Z);have h1:=jE (s[i+1]'Z);have h2:=jE (s[i+2]'Z);have h3:=jE (s[i+3]'h);generalize(s[i]'Z).toNat=a at *;generalize(s[i+1]'Z).toNat=b at *;generalize(s[i+2]'Z).toNat=c at *;generalize(s[i+3]'h).toNat=d at *;rw[w64 (x:=(a:Int)) Z Z,w64 (x:=(b:Int)) Z Z,w64 (x:=(c:Int)) Z Z,w64 (x:=(d:Int)) Z Z,Int.tmod_eq_emod_of_nonneg Z,Int.tmod_eq_emod_of_nonneg Z,Int.tmod_eq_emod_of_nonneg Z,Int.tmod_eq_emod_of_nonneg Z,w64 (x:=64*((a:Int) % 8)) Z Z,w64 (x:=64*((a:Int) % 8)+(b:Int) % 64) Z Z,w64 (x:=64*(64*((a:Int) % 8)+(b:Int) % 64)) Z Z,w64 (x:=64*(64*((a:Int) % 8)+(b:Int) % 64)+(c:Int) % 64) Z Z,w64 (x:=64*_) Z Z,w64 Z Z];omega
theorem zBq(s:ByteArray)(i k:Nat)(h:∀m,1<=m->m<k->i+m<=s.size->refTry s i m=false)(hk:5<=k\/s.size<i+k):rd s i=(0,0) :=
 zOc s i λn h1 h4 hn=>h n h1 Z hn
theorem zDz(s:ByteArray)(i k:Nat)(h:∀m,1<=m->m<k->i+m<=s.size->refTry s i m=false)(hk:refTry s i k=false):∀m,1<=m->m<k+1->i+m<=s.size->refTry s i m=false:=λm h1 h2 h3=>by
 by_cases e:m=k
 .subst e;exact hk
 .exact h m h1 Z h3
theorem zIu(s:ByteArray)(at':Int)(w:World)(hs:s.size<=9223372036854775807) :
  Calls Tryz.prog 112 #[.string s,.int .i64 at'] w λe w'=>e=.returned (.tuple #[.int .i64 (rdI s at').1,.int .i64 (rdI s at').2])/\Below w.heap.size w w':=by
 by_cases hi:0<=at'/\at'<s.size
 .obtain⟨i,rfl⟩:=Int.eq_ofNat_of_zero_le hi.1;have hi2:i<s.size:=Z;have d1:decide (s.size<=i)=false:=by simp;omega
  have d2:decide ((i:Int)<0)=false:=Ob;clear hi;go_enter Tryz.func112,Tryz.ntmps112;go_wp2_with fail;go_loopw [6] (λn wr=>∃k:Nat,1<=k/\k<=5/\n=.int .i64 k/\(∀m,1<=m->m<k->i+m<=s.size->refTry s i m=false)/\Below w.heap.size w wr) (λn _=>(5-intOf n).toNat)
  case atStart=>exact⟨1,Z,Z,rfl,λm _ _ _=>Z,bR _ _⟩
  case round =>
   obtain⟨k,hk1,hk5,rfl,hall,hb⟩:=hrel;have HA:=Hd hall;clear hall;have hk:k=1\/k=2\/k=3\/k=4\/k=5:=Z;rcases hk with rfl|rfl|rfl|rfl|rfl
   .by_cases hlt:i+1<=s.size
    .go_wp2_with fail
     go_rounds 2
     rw[wv1 s i Z];have f1:IntKind.i64.wrap ((i:Int)+1)=(i:Int)+1:=IntWalk.i64_in _ Z;have f2:0<=(i:Int)+1:=Z;have f3:((i:Int)+1).toNat=i+1:=Z;have f4:(i:Int)+1<=s.size:=Z;have f5:(i:Int)<=(i:Int)+1:=Z
     go_region_with (go_at_call 158;refine(gU _ _).mono ?_;rintro e w' ⟨rfl,hb'⟩)
     clear f1 f2 f3 f4 f5;go_wp2_with fail
     .have ht:refTry s i 1=true:=by assumption
      have HR:=zBt s i 1 Z Z hlt ht
      go_ret2
      exact⟨xL (by rw[yF,HR]) (by rw[yF,HR];rfl),hb.drew.trans (hb'.mono hb.size)⟩
     .have ht:refTry s i 1=false:=by assumption
      go_roundw
      case rel=>exact⟨1+1,Z,Z,rfl,zDz s i 1 HA.out ht,hb.drew.trans ((hb'.mono hb.size))⟩
      case measure=>simp[intOf]
    .have HR:=Hd (zBq s i 1 HA.out (Or.inr Z));go_wp2_with fail;all_goals go_ret2
     all_goals exact⟨xL (by rw[yF,HR.out];rfl) (by rw[yF,HR.out];rfl),hb⟩
   .by_cases hlt:i+2<=s.size
    .go_wp2_with fail
     go_rounds 3
     rw[wv2 s i Z];have f1:IntKind.i64.wrap ((i:Int)+2)=(i:Int)+2:=IntWalk.i64_in _ Z;have f2:0<=(i:Int)+2:=Z;have f3:((i:Int)+2).toNat=i+2:=Z;have f4:(i:Int)+2<=s.size:=Z;have f5:(i:Int)<=(i:Int)+2:=Z
     go_region_with (go_at_call 158;refine(gU _ _).mono ?_;rintro e w' ⟨rfl,hb'⟩)
     clear f1 f2 f3 f4 f5;go_wp2_with fail
     .have ht:refTry s i 2=true:=by assumption
      have HR:=zBt s i 2 Z Z hlt ht
      go_ret2
      exact⟨xL (by rw[yF,HR]) (by rw[yF,HR];rfl),hb.drew.trans (hb'.mono hb.size)⟩
     .have ht:refTry s i 2=false:=by assumption
      go_roundw
      case rel=>exact⟨2+1,Z,Z,rfl,zDz s i 2 HA.out ht,hb.drew.trans ((hb'.mono hb.size))⟩
      case measure=>simp[intOf]
    .have HR:=Hd (zBq s i 2 HA.out (Or.inr Z));go_wp2_with fail;all_goals go_ret2
     all_goals exact⟨xL (by rw[yF,HR.out];rfl) (by rw[yF,HR.out];rfl),hb⟩
   .by_cases hlt:i+3<=s.size
    .go_wp2_with fail
     go_rounds 4
     rw[wv3 s i Z];have f1:IntKind.i64.wrap ((i:Int)+3)=(i:Int)+3:=IntWalk.i64_in _ Z;have f2:0<=(i:Int)+3:=Z;have f3:((i:Int)+3).toNat=i+3:=Z;have f4:(i:Int)+3<=s.size:=Z;have f5:(i:Int)<=(i:Int)+3:=Z
     go_region_with (go_at_call 158;refine(gU _ _).mono ?_;rintro e w' ⟨rfl,hb'⟩)
     clear f1 f2 f3 f4 f5;go_wp2_with fail
     .have ht:refTry s i 3=true:=by assumption
      have HR:=zBt s i 3 Z Z hlt ht
      go_ret2
      exact⟨xL (by rw[yF,HR]) (by rw[yF,HR];rfl),hb.drew.trans (hb'.mono hb.size)⟩
     .have ht:refTry s i 3=false:=by assumption
      go_roundw
      case rel=>exact⟨3+1,Z,Z,rfl,zDz s i 3 HA.out ht,hb.drew.trans ((hb'.mono hb.size))⟩
      case measure=>simp[intOf]
    .have HR:=Hd (zBq s i 3 HA.out (Or.inr Z));go_wp2_with fail;all_goals go_ret2
     all_goals exact⟨xL (by rw[yF,HR.out];rfl) (by rw[yF,HR.out];rfl),hb⟩
   .by_cases hlt:i+4<=s.size
    .go_wp2_with fail
     go_rounds 5
     rw[wv4 s i Z];have f1:IntKind.i64.wrap ((i:Int)+4)=(i:Int)+4:=IntWalk.i64_in _ Z;have f2:0<=(i:Int)+4:=Z;have f3:((i:Int)+4).toNat=i+4:=Z;have f4:(i:Int)+4<=s.size:=Z;have f5:(i:Int)<=(i:Int)+4:=Z
     go_region_with (go_at_call 158;refine(gU _ _).mono ?_;rintro e w' ⟨rfl,hb'⟩)
     clear f1 f2 f3 f4 f5;go_wp2_with fail
     .have ht:refTry s i 4=true:=by assumption
      have HR:=zBt s i 4 Z Z hlt ht
      go_ret2
      exact⟨xL (by rw[yF,HR]) (by rw[yF,HR];rfl),hb.drew.trans (hb'.mono hb.size)⟩
     .have ht:refTry s i 4=false:=by assumption
      go_roundw
      case rel=>exact⟨4+1,Z,Z,rfl,zDz s i 4 HA.out ht,hb.drew.trans ((hb'.mono hb.size))⟩
      case measure=>simp[intOf]
    .have HR:=Hd (zBq s i 4 HA.out (Or.inr Z));go_wp2_with fail;all_goals go_ret2
     all_goals exact⟨xL (by rw[yF,HR.out];rfl) (by rw[yF,HR.out];rfl),hb⟩
   .have HR:=Hd (zBq s i 5 HA.out (Or.inl Z));go_wp2_with fail;all_goals go_ret2
    all_goals exact⟨xL (by rw[yF,HR.out];rfl) (by rw[yF,HR.out];rfl),hb⟩
 .have HR:=Hd (show rdI s at'=(0,0)by
   by_cases h:at'<0
   .exact zVq h
   .obtain⟨i,rfl⟩:=Int.eq_ofNat_of_zero_le (by omega:0<=at');rw[yF,zJq Z])
  by_cases hn:at'<0
  .clear hi;go_enter Tryz.func112,Tryz.ntmps112;go_wp2_with fail
   go_ret2
   exact⟨xL (by rw[HR.out];rfl) (by rw[HR.out];rfl),bR _ _⟩
  .have hge:s.size<=at':=Z;clear hi;go_enter Tryz.func112,Tryz.ntmps112;go_wp2_with fail
   go_ret2
   exact⟨xL (by rw[HR.out];rfl) (by rw[HR.out];rfl),bR _ _⟩
end Go.Proofs.YtfpjdpdmgceciaaGreatDoor
