/- Layer 2: the reference's Base, walked. -/
import Derived.Test.YtfpjdpdmgceciaaGreatDoorU8bTg
import Derived.Test.YtfpjdpdmgceciaaGreatDoorRef01Tg
namespace Go.Proofs.YtfpjdpdmgceciaaGreatDoor
set_option linter.all false
open Go.RowKit
def hexU:ByteArray:=⟨#[48,49,50,51,52,53,54,55,56,57,65,66,67,68,69,70]⟩
def hexL:ByteArray:=⟨#[48,49,50,51,52,53,54,55,56,57,97,98,99,100,101,102]⟩
theorem yCo:∀k,k<16->base (bt hexU k:Int)=k/\base (bt hexL k:Int)=k:=by decide +kernel
theorem yCp(r:Int)(h:∀k,k<16->(bt hexU k:Int)≠r/\(bt hexL k:Int)≠r):base r=-1:=by
 have hv:∀k,k<16->bt hexU k=(if k<10 then 48+k else 55+k)/\bt hexL k=(if k<10 then 48+k else 87+k):=by decide +kernel
 unfold base;by_cases h1:48<=r/\r<=57
 .exfalso;have g:=h (r-48).toNat Z;have g2:=hv (r-48).toNat Z;rw[iP Z]at g2;omega
 .rw[iN h1];by_cases h2:97<=r/\r<=102
  .exfalso;have g:=h (r-87).toNat Z;have g2:=hv (r-87).toNat Z;rw[iN Z,iN Z]at g2;omega
  .rw[iN h2];by_cases h3:65<=r/\r<=70
   .exfalso;have g:=h (r-55).toNat Z;have g2:=hv (r-55).toNat Z;rw[iN Z,iN Z]at g2;omega
   .rw[iN h3]
theorem w64b(b:UInt8):wrap64 (b.toNat:Int)=(b.toNat:Int):=by have:=b.toNat_lt;unfold wrap64;omega
set_option maxHeartbeats 1000000 in
theorem zQn(r:Int)(w:World) :
  Calls Tryz.prog 231 #[.int .i64 r] w λe w'=>e=.returned (.int .i64 (base r))/\w=w':=by
 have hsU:hexU.size=16:=rfl;have hsL:hexL.size=16:=rfl;have HH:=Hd yCo;have HN:=Hd (yCp r);have eU:(⟨#[48,49,50,51,52,53,54,55,56,57,65,66,67,68,69,70]⟩:ByteArray)=hexU:=rfl;have eL:(⟨#[48,49,50,51,52,53,54,55,56,57,97,98,99,100,101,102]⟩:ByteArray)=hexL:=rfl;have EU:=Hd eU;have EL:=Hd eL;clear eU eL;go_enter Tryz.func231,Tryz.ntmps231;go_wp2_with fail;rw[EU.out,EL.out];clear EU EL;generalize hexU=U at *;generalize hexL=L at *
 go_loop [5] (λi=>∃k:Nat,i=.int .i64 k/\k<=16/\(∀j,j<k->(bt U j:Int)≠r/\(bt L j:Int)≠r)) (λi=>16-(intOf i).toNat)
 case atStart=>exact⟨0,rfl,Nat.zero_le _,λj h=>Z⟩
 case round =>
  obtain⟨k,rfl,hk,hno⟩:=hrel;have HNO:=Hd hno;clear hno;by_cases hlt:k<16
  .have hu:k<U.size:=Z;have hl:k<L.size:=Z;have hbu:=zL U k hu;have hbl:=zL L k hl;have HBU:=Hd hbu;have HBL:=Hd hbl;have hwu:=w64b (U[k]'hu);have hwl:=w64b (L[k]'hl);clear hbu hbl;by_cases g1:((U[k]'hu).toNat:Int)=r
   .have g1b:(((U[k]'hu).toNat:Int)==r)=true:=by simpa using g1
    have HG:=Hd g1;clear g1;go_wp2_with fail;go_ret;exact⟨zAg (by rw[<-HG.out,HBU.out,(HH.out k hlt).1]),rfl⟩
   .have g1b:(((U[k]'hu).toNat:Int)==r)=false:=by simpa using g1
    have HG:=Hd g1;clear g1;by_cases g2:((L[k]'hl).toNat:Int)=r
    .have g2b:(((L[k]'hl).toNat:Int)==r)=true:=by simpa using g2
     have HG2:=Hd g2;clear g2;go_wp2_with fail;go_ret;exact⟨zAg (by rw[<-HG2.out,HBL.out,(HH.out k hlt).2]),rfl⟩
    .have g2b:(((L[k]'hl).toNat:Int)==r)=false:=by simpa using g2
     have HG2:=Hd g2;clear g2;go_wp2_with fail
     go_round
     case rel=>exact⟨k+1,by go_num,Z,λj hj=>by
      by_cases e:j=k
      .subst e;rw[<-HBU.out,<-HBL.out];exact⟨HG.out,HG2.out⟩
      .exact HNO.out j Z⟩
     case measure=>simp[intOf];omega
  .go_wp2_with fail;go_ret;exact⟨zAg (HN.out λj hj=>HNO.out j Z).symm,rfl⟩
end Go.Proofs.YtfpjdpdmgceciaaGreatDoor
